/- Ranges over functions whose rounds begin with memory of their own. No program in sight. -/
import Derived.Test.YtkeheickaogpiaaReJ
namespace Go.Proofs.Ytkeheickaogpiaa
open Go Go.RowKit Go.Shelf

theorem Grow.trans {K A B C : Nat → Prop} {W W1 W2 : World} (h : Grow K A B W W1) (k : Grow K B C W1 W2) : Grow K A C W W2 := by
  refine ⟨Nat.le_trans h.size k.size, fun b hb hc => h.old b hb (k.old b (Nat.lt_of_lt_of_le hb h.size) hc), k.new, fun b o hc ho hn => ?_, fun b hb hk => ?_⟩
  · obtain ⟨o', h1, h2⟩ := k.cells b o hc ho hn
    exact h.cells b o' (k.old b (Array.getElem?_eq_some_iff.1 h1).1 hc) h1 h2
  · refine (k.keep b (Nat.lt_of_lt_of_le hb h.size) ?_).trans (h.keep b hb hk)
    rcases hk with hk | hk
    · exact .inl fun hB => hk (h.old b hb hB)
    · exact .inr hk
theorem iter_law4 {α : Type} {F : Fence} {n : Nat} {P : Program} {g : Operand} {ps : Array Tmp} {assign body : Code} {Q : Exit → Act → World → Prop} {a : Act} {w : World}
    (hro : F.round = none) (h1 : 1 ≤ n) {gf : Nat} {lb : Array Value} (hg : a.eval g = .func (.func gf) #[] lb) (hFg : F.fn gf) (eg : ∀ args w, (callFunc gf args).run P w = .ok (.enter gf args) w)
    {encs : α → Array Value} {xs : List α} {S K : Nat → Prop} {St : World → Prop} (hit : Iter3 F (n - 1) P gf lb encs xs S K St) (O : Nat → Prop)
    (hSt : ∀ W, (∀ b, b < w.heap.size → W.heap[b]? = w.heap[b]?) → St W) (hO : ∀ b, O b → b < w.heap.size) (hSl : ∀ b, S b → b < w.heap.size ∧ ¬ O b) (hKl : ∀ b, K b → b < w.heap.size) (hps : ∀ x, (encs x).size = ps.size)
    (I : Nat → (Nat → Prop) → World → Prop) (Ix : Code → Nat → (Nat → Prop) → World → Prop) (hI : StayO I) (hIx : ∀ c, StayO (Ix c)) (h0 : I 0 O w)
    (hround : ∀ (l i : Nat) (x : α) (O1 : Nat → Prop) (W : World), xs[i]? = some x → w.heap.size + 2 ≤ W.heap.size → I i O1 W →
      assign.wpIn (F.inRound l) (n - 1 - 1) P (Exit.then (fun a' Wa => ∃ Oa, Grow (fun _ => True) O1 Oa W Wa ∧ ∀ U, Turn (fun b => ¬ Oa b) Wa U → U.heap.size = Wa.heap.size →
        body.wpIn (F.inRound l) (n - 1 - 1) P (roundEnd3 K I Ix (i + 1) Oa U) a' U) (fun _ _ _ => False)) { tmps := (ps.zip (encs x)).foldl (fun t (p, v) => t.setIfInBounds p v) a.tmps, defers := [] } W)
    (hdone : ∀ (D : Nat) (O1 : Nat → Prop) (W : World), w.heap.size ≤ D → ¬ O1 D → I xs.length O1 W → W.heap[D]? = some (.deferred (some [])) → Q .normal { a with defers := { target := .collected D, args := #[] } :: a.defers } W)
    (hstop : ∀ (D : Nat) (c : Code) (i : Nat) (O1 : Nat → Prop) (W : World), w.heap.size ≤ D → ¬ O1 D → i < xs.length → Ix c (i + 1) O1 W → W.heap[D]? = some (.deferred (some [])) → c.wpIn F n P Q { a with defers := { target := .collected D, args := #[] } :: a.defers } W) :
    (Code.rangeFunc g ps assign body).wpIn F n P Q a w := by
  refine wpIn_rangeFunc ?_
  intro fn hfn
  rw [hro]
  obtain ⟨B, hB⟩ : ∃ B, w.heap.size = B := ⟨_, rfl⟩
  obtain ⟨rec, hrec⟩ : ∃ rec : LoopState → Option Code → Loop, rec = fun st pe => { state := st, pending := pe, fn, tmps := a.tmps, params := ps, assign, body, defers := B } := ⟨_, rfl⟩
  obtain ⟨V, hV⟩ : ∃ V, (w.alloc (.deferred (some []))).alloc (.loop (rec .ready none)) = V := ⟨_, rfl⟩
  have vl : V.heap[B + 1]? = some (.loop (rec .ready none)) := by
    rw [← hV, ← hB]; have := World.alloc_heap_new (w.alloc (.deferred (some []))) (.loop (rec .ready none)); rwa [World.size_alloc] at this
  have vd : V.heap[B]? = some (.deferred (some [])) := by
    rw [← hV, ← hB]; exact (Below.heap_alloc _ _ _ (by simp)).trans (World.alloc_heap_new w _)
  have vo : ∀ b, b < B → V.heap[b]? = w.heap[b]? := by
    intro b hb
    rw [← hV]; exact (Below.heap_alloc _ _ _ (by simp; omega)).trans (Below.heap_alloc _ _ _ (by omega))
  have vI : I 0 O V := by
    rw [← hV]; exact hI 0 _ _ _ (hI 0 _ _ _ h0 (Turn.alloc _ _ _)) (Turn.alloc _ _ _)
  have vs : V.heap.size = B + 2 := by rw [← hV, ← hB]; simp
  refine ⟨B + 1, [{ target := .collected B, args := #[] }], V, { target := .fn (.func gf) lb, args := #[.func (.yield (B + 1)) #[] #[]] }, V, gf,
    #[.func (.yield (B + 1)) #[] #[]] ++ lb, V, ?_, ?_, ?_, ?_, fun _ => h1, ?_⟩
  · rw [← hV, hrec, ← hB]; exact run_enterLoop_outer _ _ _ _ _
  · simp only [resolve, hg]
    simp [go_sem]
  · intro f' hf'; simp [Target.leads] at hf'; subst hf'; exact hFg
  · simp [invoke, go_sem, eg]
  · obtain ⟨up, hup⟩ : ∃ up : (Nat → Prop) → Nat → Prop, up = fun Oc b => Oc b ∨ b = B ∨ b = B + 1 := ⟨_, rfl⟩
    have kept : ∀ {Oc : Nat → Prop} {A C : World} {b : Nat} {o : Obj}, Turn (fun b => ¬ up Oc b) A C → (b = B ∨ b = B + 1) → A.heap[b]? = some o → C.heap[b]? = some o := fun {Oc A C b o} t hb ho =>
      t.heap (fun e => e (by rw [hup]; exact .inr hb)) ho
    have upT : ∀ {Oc : Nat → Prop} {A C : World}, Turn (fun b => ¬ up Oc b) A C → Turn (fun b => ¬ Oc b) A C := fun {Oc A C} t => t.mono fun b hb h => hb (by rw [hup]; exact .inl h)
    refine (hit (B + 1)
      (fun i O1 W => ∃ Oc, O1 = up Oc ∧ (¬ Oc B ∧ ¬ Oc (B + 1)) ∧ I i Oc W ∧ W.heap[B + 1]? = some (.loop (rec .ready none)) ∧ W.heap[B]? = some (.deferred (some [])))
      (fun i O1 W => ∃ Oc, O1 = up Oc ∧ (¬ Oc B ∧ ¬ Oc (B + 1)) ∧ ∃ c, Ix c i Oc W ∧ W.heap[B + 1]? = some (.loop (rec .done (some c))) ∧ W.heap[B]? = some (.deferred (some [])))
      V (up O) (hSt V (by rw [hB]; exact vo))
      (fun i O1 A C hs t => by
        obtain ⟨Oc, rfl, hn, h1, h2, h3⟩ := hs
        exact ⟨Oc, rfl, hn, hI i _ A C h1 (upT t), kept t (.inr rfl) h2, kept t (.inl rfl) h3⟩)
      (fun i O1 A C hs t => by
        obtain ⟨Oc, rfl, hn, c, h1, h2, h3⟩ := hs
        exact ⟨Oc, rfl, hn, c, hIx c i _ A C h1 (upT t), kept t (.inr rfl) h2, kept t (.inl rfl) h3⟩)
      (fun b hb h => by
        have h9 := hSl b hb
        rw [hup] at h
        rcases h with h | h | h
        · exact h9.2 h
        · omega
        · omega)
      (fun b hb => by
        rw [hup] at hb
        rcases hb with h | h | h
        · have := hO b h; omega
        · omega
        · omega)
      ?_ ⟨O, rfl, ⟨fun h => by have := hO _ h; omega, fun h => by have := hO _ h; omega⟩, vI, vl, vd⟩).mono ?_
    · rintro i x O1 W hx ⟨Oc, rfl, hn, hi, hl, hd⟩ hVW
      have hlt : B + 1 < W.heap.size := (Array.getElem?_eq_some_iff.1 hl).1
      have hy := run_yield (P := P) (args := encs x) hl (by rw [hrec]; exact hps x)
      rw [hrec] at hy
      have hra := hround (B + 1) i x Oc W hx (by omega) hi
      refine ⟨fn, _, assign, body, hy, roundIn_of_wpIn hfn (wpIn_mono hra ?_)⟩
      intro e0 a0 Wa hpa
      cases e0 with
      | normal => ?_
      | ret => exact hpa.elim
      | exit id => exact hpa.elim
      | goto t => exact hpa.elim
      | panic ch => exact hpa.elim
      | outgrown => exact hpa.elim
      obtain ⟨Oa, hga, hbody⟩ := hpa
      have was := hga.size
      have hlW := hl
      have hdW := hd
      have hnW := hn
      have hltW := hlt
      have gW : Grow K (up Oc) (up Oa) W Wa := by
        refine ⟨hga.size, ?_, ?_, ?_, fun b hb _ => hga.keep b hb (.inr trivial)⟩
        · intro b hb h
          rw [hup] at h ⊢
          exact h.elim (fun h => .inl (hga.old b hb h)) .inr
        · intro b h
          rw [hup] at h
          rcases h with h | h | h
          · exact hga.new b h
          · omega
          · omega
        · intro b o h ho hc
          rw [hup] at h
          rcases h with h | rfl | rfl
          · exact hga.cells b o h ho hc
          · exact ⟨_, hd, rfl⟩
          · exact ⟨_, hl, rfl⟩
      have hl := (hga.keep (B + 1) hlt (.inr trivial)).trans hlW
      have hd := (hga.keep B (by omega) (.inr trivial)).trans hdW
      have hn : ¬ Oa B ∧ ¬ Oa (B + 1) := ⟨fun h => hnW.1 (hga.old _ (by omega) h), fun h => hnW.2 (hga.old _ hlt h)⟩
      have hlt : B + 1 < Wa.heap.size := (Array.getElem?_eq_some_iff.1 hl).1
      refine ⟨_, run_beginRound hl (by rw [hrec]), ?_⟩
      obtain ⟨U, hU⟩ : ∃ U, Wa.putObj (B + 1) (.loop { rec .ready none with state := .busy }) = U := ⟨_, rfl⟩
      have ul : U.heap[B + 1]? = some (.loop { rec .ready none with state := .busy }) := by rw [← hU]; exact World.putObj_heap_same hlt
      have ud : U.heap[B]? = some (.deferred (some [])) := by rw [← hU]; exact (World.putObj_heap_other (by omega)).trans hd
      have us : U.heap.size = Wa.heap.size := by rw [← hU]; simp [World.putObj]
      have uo : ∀ b, b ≠ B + 1 → U.heap[b]? = Wa.heap[b]? := fun b hb => by rw [← hU]; exact World.putObj_heap_other hb
      have uT : Turn (fun b => ¬ Oa b) Wa U := by rw [← hU]; exact Turn.putObj Wa hn.2 _
      rw [hU]
      refine wpIn_mono (hbody U uT us) ?_
      have fin : ∀ (jump : Option Code) (O2 : Nat → Prop) (W3 : World), Grow K Oa O2 U W3 →
          (Instr.endRound (B + 1) jump).run P W3 = .ok (.bool jump.isNone) (W3.putObj (B + 1) (.loop (rec (if jump.isNone then .ready else .done) jump))) ∧
          (W3.putObj (B + 1) (.loop (rec (if jump.isNone then .ready else .done) jump))).heap[B + 1]? = some (.loop (rec (if jump.isNone then .ready else .done) jump)) ∧
          (W3.putObj (B + 1) (.loop (rec (if jump.isNone then .ready else .done) jump))).heap[B]? = some (.deferred (some [])) ∧
          (¬ O2 B ∧ ¬ O2 (B + 1)) ∧ Grow K (up Oa) (up O2) Wa (W3.putObj (B + 1) (.loop (rec (if jump.isNone then .ready else .done) jump))) := fun jump O2 W3 hk => by
        have l3 : W3.heap[B + 1]? = some (.loop { rec .ready none with state := .busy }) := (hk.keep (B + 1) (by omega) (.inl hn.2)).trans ul
        have d3 : W3.heap[B]? = some (.deferred (some [])) := (hk.keep B (by omega) (.inl hn.1)).trans ud
        have n3 : ¬ O2 B ∧ ¬ O2 (B + 1) := ⟨fun h => hn.1 (hk.old _ (by omega) h), fun h => hn.2 (hk.old _ (by omega) h)⟩
        have hr := run_endRound (P := P) jump l3
        rw [hrec] at hr ⊢
        rw [hrec] at l3
        have hsz : ∀ o, (W3.putObj (B + 1) o).heap.size = W3.heap.size := fun o => by simp [World.putObj]
        have hks := hk.size
        refine ⟨hr, World.putObj_heap_same (Array.getElem?_eq_some_iff.1 l3).1, (World.putObj_heap_other (by omega)).trans d3, n3, ⟨by rw [hsz]; omega, ?_, ?_, ?_, ?_⟩⟩
        · intro b hb h
          rw [hup] at h ⊢
          exact h.elim (fun h => .inl (hk.old b (by omega) h)) .inr
        · intro b h
          rw [hup] at h
          rw [hsz]
          rcases h with h | h | h
          · exact hk.new b h
          · omega
          · omega
        · intro b o h ho hc
          rw [hup] at h
          rcases Nat.decEq b (B + 1) with hne | rfl
          · rcases h with h | rfl | h
            · obtain ⟨o', h1, h2⟩ := hk.cells b o h ((World.putObj_heap_other hne).symm.trans ho) hc
              exact ⟨o', (uo b hne).symm.trans h1, h2⟩
            · exact ⟨_, hd, rfl⟩
            · exact absurd h hne
          · exact ⟨_, hl, rfl⟩
        · intro b hb h
          have hne : b ≠ B + 1 := by
            rintro rfl
            rcases h with h | h
            · exact h (by rw [hup]; exact .inr (.inr rfl))
            · have := hKl _ h; omega
          refine (World.putObj_heap_other hne).trans ((hk.keep b (by omega) ?_).trans (uo b hne))
          rcases h with h | h
          · exact .inl fun e => h (by rw [hup]; exact .inl e)
          · exact .inr h
      have jumps : ∀ (c : Code) (O2 : Nat → Prop) (W3 : World), Grow K Oa O2 U W3 → Ix c (i + 1) O2 W3 → ∃ v w', (Instr.endRound (B + 1) (some c)).run P W3 = .ok v w' ∧ ∃ O', Grow K (up Oc) O' W w' ∧
          ((Ending.returned v = .returned (.bool true) ∧ ∃ Oc', O' = up Oc' ∧ (¬ Oc' B ∧ ¬ Oc' (B + 1)) ∧ I (i + 1) Oc' w' ∧ w'.heap[B + 1]? = some (.loop (rec .ready none)) ∧ w'.heap[B]? = some (.deferred (some []))) ∨
           (Ending.returned v = .returned (.bool false) ∧ ∃ Oc', O' = up Oc' ∧ (¬ Oc' B ∧ ¬ Oc' (B + 1)) ∧ ∃ c, Ix c (i + 1) Oc' w' ∧ w'.heap[B + 1]? = some (.loop (rec .done (some c))) ∧ w'.heap[B]? = some (.deferred (some [])))) := fun c O2 W3 hk hc => by
        obtain ⟨hr, l4, d4, n3, hg⟩ := fin (some c) O2 W3 hk
        exact ⟨_, _, hr, up O2, gW.trans hg, .inr ⟨rfl, O2, rfl, n3, c, hIx c _ _ _ _ hc (Turn.putObj W3 n3.2 _), l4, d4⟩⟩
      rintro e a3 W3 hp
      cases e with
      | normal =>
        obtain ⟨O2, hk, hi3⟩ := hp
        obtain ⟨hr, l4, d4, n3, hg⟩ := fin none O2 W3 hk
        exact ⟨_, _, hr, up O2, gW.trans hg, .inl ⟨rfl, O2, rfl, n3, hI _ _ _ _ hi3 (Turn.putObj W3 n3.2 _), l4, d4⟩⟩
      | ret => obtain ⟨O2, hk, hi3⟩ := hp; exact jumps _ O2 W3 hk hi3
      | exit id => obtain ⟨O2, hk, hi3⟩ := hp; exact jumps _ O2 W3 hk hi3
      | goto t => obtain ⟨O2, hk, hi3⟩ := hp; exact jumps _ O2 W3 hk hi3
      | panic ch => exact hp.elim
      | outgrown => exact hp.elim
    · rintro e W2 ⟨⟨v, rfl⟩, (⟨O', Oc, rfl, hn, hi, hl, hd⟩ | ⟨i, hlen, O', Oc, rfl, hn, c, hi, hl, hd⟩)⟩
      · exact ⟨none, _, by have := run_endLoop (P := P) hl (by rw [hrec]; simp); rw [hrec] at this; exact this, hdone _ _ _ (by omega) hn.1 (hI _ _ _ _ hi (Turn.putObj W2 hn.2 _)) ((World.putObj_heap_other (by omega)).trans hd)⟩
      · exact ⟨some c, _, by have := run_endLoop (P := P) hl (by rw [hrec]; simp); rw [hrec] at this; exact this, hstop _ c i _ _ (by omega) hn.1 hlen (hIx c _ _ _ _ hi (Turn.putObj W2 hn.2 _)) ((World.putObj_heap_other (by omega)).trans hd)⟩

theorem reS_iterA {α : Type} {n : Nat} {P : Program} {g : Operand} {ps : Array Tmp} {assign body : Code} {Q : Exit → Act → World → Prop} {a : Act} {W : World}
    (h1 : 1 ≤ n) {gf : Nat} {lb : Array Value} (hg : a.eval g = .func (.func gf) #[] lb) (eg : ∀ args w, (callFunc gf args).run P w = .ok (.enter gf args) w)
    {encs : α → Array Value} {xs : List α} {KO : Objs} (hit : IterS (n - 1) P gf lb encs xs KO)
    {R : List Nat} {base : World} (Rel : Nat → Objs → Prop) (Rx : Code → Nat → Objs → Prop) {L0 : Objs} (OW : Hid (OwnS R base L0 W)) (h0 : Rel 0 L0)
    (hKnd : KO.Pairwise (fun x y => x.1 ≠ y.1)) (hKO : ∀ i Ls, Rel i Ls → ∀ x ∈ KO, x ∈ Ls) (hKx : ∀ c i Ls, Rx c i Ls → ∀ x ∈ KO, x ∈ Ls) (hps : ∀ x, (encs x).size = ps.size)
    (hround : ∀ (l i : Nat) (x : α) (Ls : Objs) (W : World), xs[i]? = some x → Rel i Ls → Hid (OwnS (Ls.map (·.1)) W Ls W) →
      assign.wpIn (Fence.wide.inRound l) (n - 1 - 1) P (Exit.then (fun a' Wa => ∃ L', OwnS (Ls.map (·.1)) W (Ls ++ L') Wa ∧ (L'.all fun y => y.2.isCells) = true ∧ ∀ W1, Hid (OwnS ((Ls ++ L').map (·.1)) W1 (Ls ++ L') W1) →
        body.wpIn (Fence.wide.inRound l) (n - 1 - 1) P (endS W1 (Ls ++ L') (Rel (i + 1)) (fun c => Rx c (i + 1))) a' W1) (fun _ _ _ => False)) { tmps := (ps.zip (encs x)).foldl (fun t (p, v) => t.setIfInBounds p v) a.tmps, defers := [] } W)
    (hdone : ∀ (D : Nat) (Ls : Objs) (W2 : World), Rel xs.length Ls → Hid (OwnS (Ls.map (·.1)) W2 Ls W2) → Hid (OwnS R base (Ls ++ [markO D]) W2) → Q .normal { a with defers := markD D :: a.defers } W2)
    (hstop : ∀ (D : Nat) (c : Code) (i : Nat) (Ls : Objs) (W2 : World), i < xs.length → Rx c (i + 1) Ls → Hid (OwnS (Ls.map (·.1)) W2 Ls W2) → Hid (OwnS R base (Ls ++ [markO D]) W2) → c.wpIn Fence.wide n P Q { a with defers := markD D :: a.defers } W2) :
    (Code.rangeFunc g ps assign body).wpIn Fence.wide n P Q a W := by
  obtain ⟨m, hm⟩ : ∃ m, W.heap.size = m := ⟨_, rfl⟩
  obtain ⟨U, hUd⟩ : ∃ U : Nat → Prop, U = fun b => b < m ∧ b ∉ L0.map (·.1) := ⟨_, rfl⟩
  have hU : ∀ b, U b → b < m := fun b h => by rw [hUd] at h; exact h.1
  have hUR : ∀ b, b < base.heap.size → b ∉ R → U b := fun b hb hn => by
    rw [hUd]
    refine ⟨by have := OW.out.size; omega, fun hx => ?_⟩
    obtain ⟨y, hy, e⟩ := List.mem_map.1 hx
    rcases OW.out.lo y hy with h | h
    · exact hn (by rw [← e]; exact h)
    · omega
  have hn0 : ∀ x ∈ L0, ¬ U x.1 := fun x hx h => by rw [hUd] at h; exact h.2 (List.mem_map_of_mem hx)
  have hset : ∀ b, setS U L0 b → b < m := fun b h => by
    rcases h with h | ⟨x, hx, rfl⟩
    · exact hU b h
    · have := OW.out.lt hx; omega
  have fin : ∀ (D : Nat) (O1 : Nat → Prop) (Ls : Objs) (W2 : World), W.heap.size ≤ D → ¬ O1 D → O1 = setS U Ls → OwnS R base Ls W2 → W2.heap[D]? = some (.deferred (some [])) → OwnS R base (Ls ++ [markO D]) W2 := by
    rintro D O1 Ls W2 hD hn rfl h hd
    refine ⟨?_, ?_, ?_, h.os, h.tape, h.output, h.size, h.far⟩
    · intro x hx
      rcases List.mem_append.1 hx with hx | hx
      · exact h.obj x hx
      · obtain rfl := List.mem_singleton.1 hx; exact hd
    · refine List.pairwise_append.2 ⟨h.nd, List.pairwise_singleton _ _, fun x hx y hy e => ?_⟩
      obtain rfl := List.mem_singleton.1 hy
      exact hn (.inr ⟨x, hx, e⟩)
    · intro x hx
      rcases List.mem_append.1 hx with hx | hx
      · exact h.lo x hx
      · obtain rfl := List.mem_singleton.1 hx
        exact .inr (Nat.le_trans OW.out.size hD)
  have keepK : ∀ (Rl : Nat → Objs → Prop), (∀ i Ls, Rl i Ls → ∀ x ∈ KO, x ∈ Ls) → ∀ {i : Nat} {Ls : Objs} {W1 W' : World}, (∀ x ∈ KO, x ∈ Ls) → OwnS R base Ls W1 → ∀ L', Rl i L' → OwnS (Ls.map (·.1)) W1 L' W' → ∀ b, (∃ x ∈ KO, x.1 = b) → b < W1.heap.size → W'.heap[b]? = W1.heap[b]? := by
    rintro Rl hRl i Ls W1 W' hK1 hO L' hr h b ⟨x, hx, rfl⟩ _
    exact (h.obj x (hRl _ _ hr x hx)).trans (hO.obj x (hK1 x hx)).symm
  refine iter_law4 (n := n) (F := Fence.wide) rfl h1 hg trivial eg hit (setS U L0) (fun W' hW' => ?_) (fun b hb => by have := hset b hb; omega) (fun _ h => h.elim) (fun b hb => ?_) hps (invS U m R base Rel) (fun c => invS U m R base (Rx c)) (invS.stay hUR) (fun c => invS.stay hUR) ⟨L0, h0, rfl, OW.out, by omega, hn0⟩ ?_ ?_ ?_
  · have hs := OW.out.has
    refine ⟨fun x hx => (hW' x.1 (OW.out.lt (hKO _ _ h0 x hx))).trans (hs.obj x (hKO _ _ h0 x hx)), ?_⟩
    exact hKnd
  · obtain ⟨x, hx, rfl⟩ := hb
    exact OW.out.lt (hKO _ _ h0 x hx)
  · rintro l i x O1 W0 hx hs ⟨Ls0, hr, rfl, hO0, hm0, hn1⟩
    refine wpIn_mono (hround l i x Ls0 W0 hx hr (Lib.hid hO0.anew)) ?_
    intro e0 a' Wa hpa
    cases e0 with
    | normal => ?_
    | ret => exact hpa.elim
    | exit id => exact hpa.elim
    | goto t => exact hpa.elim
    | panic ch => exact hpa.elim
    | outgrown => exact hpa.elim
    obtain ⟨L', hOa, hLc, hbody⟩ := hpa
    have hnew : ∀ x ∈ L', W0.heap.size ≤ x.1 := fun x hx => by
      rcases hOa.lo x (List.mem_append_right _ hx) with h | h
      · obtain ⟨y, hy, e⟩ := List.mem_map.1 h
        exact absurd e ((List.pairwise_append.1 hOa.nd).2.2 y hy x hx)
      · exact h
    have hna : ∀ x ∈ Ls0 ++ L', ¬ U x.1 := fun x hx hu => by
      rcases List.mem_append.1 hx with hx | hx
      · exact hn1 x hx hu
      · have := hU _ hu; have := hnew x hx; omega
    refine ⟨setS U (Ls0 ++ L'), ⟨hOa.size, ?_, ?_, ?_, ?_⟩, ?_⟩
    · rintro b hb (h | ⟨y, hy, rfl⟩)
      · exact .inl h
      · rcases List.mem_append.1 hy with hy | hy
        · exact .inr ⟨y, hy, rfl⟩
        · have := hnew y hy; omega
    · rintro b (h | ⟨y, hy, rfl⟩)
      · have := hU b h; have := hOa.size; omega
      · exact hOa.lt hy
    · rintro b o (h | ⟨y, hy, rfl⟩) ho hc
      · refine ⟨o, ?_, hc⟩
        rw [← hOa.far b (by have := hU b h; omega) (fun hx => by obtain ⟨y, hy, e⟩ := List.mem_map.1 hx; exact hn1 y hy (by rw [e]; exact h))]
        exact ho
      · have h9 := (hOa.obj y hy).symm.trans ho
        cases h9
        rcases List.mem_append.1 hy with hy' | hy'
        · exact ⟨y.2, hO0.obj y hy', hc⟩
        · rw [List.all_eq_true.1 hLc y hy'] at hc
          cases hc
    · intro b hb _
      by_cases hx : b ∈ Ls0.map (·.1)
      · obtain ⟨y, hy, rfl⟩ := List.mem_map.1 hx
        exact (hOa.obj y (List.mem_append_left _ hy)).trans (hO0.obj y hy).symm
      · exact hOa.far b hb hx
    intro W1 tW sW
    have hOW : OwnS R base (Ls0 ++ L') Wa := hO0.join hOa
    have hO : OwnS R base (Ls0 ++ L') W1 := hOW.turn tW (fun x hx => .inr ⟨x, hx, rfl⟩) (fun b hb hn => .inl (hUR b hb hn))
    have hm1 : m ≤ W1.heap.size := by have := hOa.size; omega
    obtain ⟨Ls, hLs⟩ : ∃ Ls, Ls0 ++ L' = Ls := ⟨_, rfl⟩
    have hKL : ∀ x ∈ KO, x ∈ Ls := fun x hx => by rw [← hLs]; exact List.mem_append_left _ (hKO _ _ hr x hx)
    rw [hLs] at hO hbody hna ⊢
    have hb := hbody W1 (Lib.hid hO.anew)
    refine wpIn_mono hb ?_
    have key : ∀ (Rl : Nat → Objs → Prop), (∀ i Ls, Rl i Ls → ∀ x ∈ KO, x ∈ Ls) → ∀ W', NextS W1 Ls (Rl (i + 1)) W' → ∃ O', Grow (fun b => ∃ x ∈ KO, x.1 = b) (setS U Ls) O' W1 W' ∧ invS U m R base Rl (i + 1) O' W' := fun Rl hRl W' h =>
      h.grow hO hm1 hU hna (keepK Rl hRl hKL hO)
    intro e a' W' h
    cases e with
    | normal => exact key Rel hKO W' h
    | ret => exact key (Rx .ret) (hKx .ret) W' h
    | exit id => exact key (Rx (.exit id)) (hKx (.exit id)) W' h
    | goto t => exact key (Rx (.goto t)) (hKx (.goto t)) W' h
    | panic c => exact h.elim
    | outgrown => exact h.elim
  · rintro D O1 W2 hD hn ⟨Ls, hr, he, hO, hm1, hn1⟩ hd
    exact hdone D Ls W2 hr (Lib.hid hO.anew) (Lib.hid (fin D O1 Ls W2 hD hn he hO hd))
  · rintro D c i O1 W2 hD hn hi ⟨Ls, hr, he, hO, hm1, hn1⟩ hd
    exact hstop D c i Ls W2 hi hr (Lib.hid hO.anew) (Lib.hid (fin D O1 Ls W2 hD hn he hO hd))
theorem mem_places {L KO : Objs} (ps : List Nat) (h : ps.map (fun p => L[p]?) = KO.map some) : ∀ x ∈ KO, x ∈ L := by
  intro x hx
  have h1 : some x ∈ KO.map some := List.mem_map_of_mem hx
  rw [← h] at h1
  obtain ⟨p, _, hp⟩ := List.mem_map.1 h1
  exact List.mem_of_getElem? hp
theorem range_map_some {α : Type} {n i : Nat} {f : Nat → α} {x : α} (h : ((List.range n).map f)[i]? = some x) : i < n ∧ f i = x := by
  rw [List.getElem?_map] at h
  rcases Nat.lt_or_ge i n with hi | hi
  · rw [List.getElem?_range hi, Option.map_some, Option.some.injEq] at h
    exact ⟨hi, h⟩
  · rw [List.getElem?_eq_none (by rw [List.length_range]; exact hi)] at h
    cases h
theorem range_map_get {α : Type} {n i : Nat} {f : Nat → α} (h : i < n) : ((List.range n).map f)[i]? = some (f i) := by rw [List.getElem?_map, List.getElem?_range h]; rfl
end Go.Proofs.Ytkeheickaogpiaa
