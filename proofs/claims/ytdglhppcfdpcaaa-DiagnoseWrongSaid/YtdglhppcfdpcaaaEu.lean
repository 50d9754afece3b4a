/- Ranges over functions that yield slices of their own. No program in sight. -/
import Derived.Test.YtdglhppcfdpcaaaEeE
set_option linter.unusedVariables false
namespace Go.Proofs.Ytdglhppcfdpcaaa.E
open Go Go.RowKit Go.Shelf

/-- An iterator that yields, with a value x, the blocks ds x: they are its own, and no round writes them. X i x: x may be the one of round i; N: the number of rounds. -/
def IterY {α : Type} (F : Fence) (n : Nat) (P : Program) (g : Nat) (lb : Array Value) (encs : α → Array Value) (ds : α → Objs) (X : Nat → α → Prop) (N : Nat) (K : Nat → Prop) (St : World → Prop) : Prop :=
  ∀ (l : Nat) (J Jx : Nat → (Nat → Prop) → World → Prop) (W : World) (O : Nat → Prop), St W → StayO J → StayO Jx → (∀ b, O b → b < W.heap.size) →
    (∀ i x O1 W1, X i x → Has (ds x) W1 → (∀ y ∈ ds x, ¬ O1 y.1 ∧ ¬ K y.1) → J i O1 W1 → W.heap.size ≤ W1.heap.size → YieldAt F (n - 1) P l (encs x) W1 fun e W' => ∃ O', GrowE K O1 O' W1 W' ∧
      ((e = .returned (.bool true) ∧ J (i + 1) O' W') ∨ (e = .returned (.bool false) ∧ Jx (i + 1) O' W'))) →
    J 0 O W →
    CallsIn F n P g (#[.func (.yield l) #[] #[]] ++ lb) W fun e W' => (∃ v, e = .returned v) ∧ ((∃ O', J N O' W') ∨ ∃ i, i < N ∧ ∃ O', Jx (i + 1) O' W')
theorem iter_lawY {α : Type} {F : Fence} {n : Nat} {P : Program} {g : Operand} {ps : Array Tmp} {assign body : Code} {Q : Exit → Act → World → Prop} {a : Act} {w : World}
    (hro : F.round = none) (h1 : 1 ≤ n) {gf : Nat} {lb : Array Value} (hg : a.eval g = .func (.func gf) #[] lb) (hFg : F.fn gf) (eg : ∀ args w, (callFunc gf args).run P w = .ok (.enter gf args) w)
    {encs : α → Array Value} {ds : α → Objs} {X : Nat → α → Prop} {N : Nat} {K : Nat → Prop} {St : World → Prop} (hit : IterY F (n - 1) P gf lb encs ds X N K St) (O : Nat → Prop)
    (hSt : ∀ W, (∀ b, b < w.heap.size → W.heap[b]? = w.heap[b]?) → St W) (hO : ∀ b, O b → b < w.heap.size) (hKl : ∀ b, K b → b < w.heap.size) (hps : ∀ x, (encs x).size = ps.size)
    (I : Nat → (Nat → Prop) → World → Prop) (Ix : Code → Nat → (Nat → Prop) → World → Prop) (hI : StayO I) (hIx : ∀ c, StayO (Ix c)) (h0 : I 0 O w)
    (hround : ∀ (l i : Nat) (x : α) (O1 : Nat → Prop) (W : World), X i x → Has (ds x) W → (∀ y ∈ ds x, ¬ O1 y.1 ∧ ¬ K y.1) → w.heap.size + 2 ≤ W.heap.size → I i O1 W →
      assign.wpIn (F.inRound l) (n - 1 - 1) P (Exit.then (fun a' Wa => ∃ Oa, GrowE K O1 Oa W Wa ∧ ∀ U, Turn (fun b => ¬ Oa b) Wa U → U.heap.size = Wa.heap.size → (∀ y ∈ ds x, U.heap[y.1]? = Wa.heap[y.1]?) →
        body.wpIn (F.inRound l) (n - 1 - 1) P (roundEndE K I Ix (i + 1) Oa U) a' U) (fun _ _ _ => False)) { tmps := (ps.zip (encs x)).foldl (fun t (p, v) => t.setIfInBounds p v) a.tmps, defers := [] } W)
    (hdone : ∀ (D : Nat) (O1 : Nat → Prop) (W : World), w.heap.size ≤ D → ¬ O1 D → I N O1 W → W.heap[D]? = some (.deferred (some [])) → Q .normal { a with defers := { target := .collected D, args := #[] } :: a.defers } W)
    (hstop : ∀ (D : Nat) (c : Code) (i : Nat) (O1 : Nat → Prop) (W : World), w.heap.size ≤ D → ¬ O1 D → i < N → Ix c (i + 1) O1 W → W.heap[D]? = some (.deferred (some [])) → c.wpIn F n P Q { a with defers := { target := .collected D, args := #[] } :: a.defers } W) :
    (Code.rangeFunc g ps assign body).wpIn F n P Q a w := by
  refine wpIn_rangeFunc ?_
  intro fn hfn
  rw [hro]
  obtain ⟨B, hB⟩ : ∃ B, w.heap.size = B := ⟨_, rfl⟩
  obtain ⟨rec, hrec⟩ : ∃ rec : LoopState → Option Code → Loop, rec = fun st pe => { state := st, pending := pe, fn, tmps := a.tmps, params := ps, assign, body, defers := B } := ⟨_, rfl⟩
  obtain ⟨V, hV⟩ : ∃ V, (w.alloc (.deferred (some []))).alloc (.loop (rec .ready none)) = V := ⟨_, rfl⟩
  have vl : V.heap[B + 1]? = some (.loop (rec .ready none)) := by
    rw [← hV, ← hB]; have := World.alloc_heap_new (w.alloc (.deferred (some []))) (.loop (rec .ready none)); rwa [World.size_alloc] at this
  have vd : V.heap[B]? = some (.deferred (some [])) := by
    rw [← hV, ← hB]; exact (Below.heap_alloc _ _ _ (by simp)).trans (World.alloc_heap_new w _)
  have vo : ∀ b, b < B → V.heap[b]? = w.heap[b]? := by
    intro b hb
    rw [← hV]; exact (Below.heap_alloc _ _ _ (by simp; omega)).trans (Below.heap_alloc _ _ _ (by omega))
  have vI : I 0 O V := by
    rw [← hV]; exact hI 0 _ _ _ (hI 0 _ _ _ h0 (Turn.alloc _ _ _)) (Turn.alloc _ _ _)
  have vs : V.heap.size = B + 2 := by rw [← hV, ← hB]; simp
  refine ⟨B + 1, [{ target := .collected B, args := #[] }], V, { target := .fn (.func gf) lb, args := #[.func (.yield (B + 1)) #[] #[]] }, V, gf,
    #[.func (.yield (B + 1)) #[] #[]] ++ lb, V, ?_, ?_, ?_, ?_, fun _ => h1, ?_⟩
  · rw [← hV, hrec, ← hB]; exact run_enterLoop_outer _ _ _ _ _
  · simp only [resolve, hg]
    simp [go_sem]
  · intro f' hf'; simp [Target.leads] at hf'; subst hf'; exact hFg
  · simp [invoke, go_sem, eg]
  · obtain ⟨up, hup⟩ : ∃ up : (Nat → Prop) → Nat → Prop, up = fun Oc b => Oc b ∨ b = B ∨ b = B + 1 := ⟨_, rfl⟩
    have kept : ∀ {Oc : Nat → Prop} {A C : World} {b : Nat} {o : Obj}, Turn (fun b => ¬ up Oc b) A C → (b = B ∨ b = B + 1) → A.heap[b]? = some o → C.heap[b]? = some o := fun {Oc A C b o} t hb ho =>
      t.heap (fun e => e (by rw [hup]; exact .inr hb)) ho
    have upT : ∀ {Oc : Nat → Prop} {A C : World}, Turn (fun b => ¬ up Oc b) A C → Turn (fun b => ¬ Oc b) A C := fun {Oc A C} t => t.mono fun b hb h => hb (by rw [hup]; exact .inl h)
    refine (hit (B + 1)
      (fun i O1 W => ∃ Oc, O1 = up Oc ∧ (¬ Oc B ∧ ¬ Oc (B + 1)) ∧ I i Oc W ∧ W.heap[B + 1]? = some (.loop (rec .ready none)) ∧ W.heap[B]? = some (.deferred (some [])))
      (fun i O1 W => ∃ Oc, O1 = up Oc ∧ (¬ Oc B ∧ ¬ Oc (B + 1)) ∧ ∃ c, Ix c i Oc W ∧ W.heap[B + 1]? = some (.loop (rec .done (some c))) ∧ W.heap[B]? = some (.deferred (some [])))
      V (up O) (hSt V (by rw [hB]; exact vo))
      (fun i O1 A C hs t => by
        obtain ⟨Oc, rfl, hn, h1, h2, h3⟩ := hs
        exact ⟨Oc, rfl, hn, hI i _ A C h1 (upT t), kept t (.inr rfl) h2, kept t (.inl rfl) h3⟩)
      (fun i O1 A C hs t => by
        obtain ⟨Oc, rfl, hn, c, h1, h2, h3⟩ := hs
        exact ⟨Oc, rfl, hn, c, hIx c i _ A C h1 (upT t), kept t (.inr rfl) h2, kept t (.inl rfl) h3⟩)
      (fun b hb => by
        rw [hup] at hb
        rcases hb with h | h | h
        · have := hO b h; omega
        · omega
        · omega)
      ?_ ⟨O, rfl, ⟨fun h => by have := hO _ h; omega, fun h => by have := hO _ h; omega⟩, vI, vl, vd⟩).mono ?_
    · rintro i x O1 W hx hx2 hx3 ⟨Oc, rfl, hn, hi, hl, hd⟩ hVW
      have hlt : B + 1 < W.heap.size := (Array.getElem?_eq_some_iff.1 hl).1
      have hy := run_yield (P := P) (args := encs x) hl (by rw [hrec]; exact hps x)
      rw [hrec] at hy
      have hra := hround (B + 1) i x Oc W hx hx2 (fun y hy => ⟨fun h => (hx3 y hy).1 (by rw [hup]; exact .inl h), (hx3 y hy).2⟩) (by omega) hi
      refine ⟨fn, _, assign, body, hy, roundIn_of_wpIn hfn (wpIn_mono hra ?_)⟩
      intro e0 a0 Wa hpa
      cases e0 with
      | normal => ?_
      | ret => exact hpa.elim
      | exit id => exact hpa.elim
      | goto t => exact hpa.elim
      | panic ch => exact hpa.elim
      | outgrown => exact hpa.elim
      obtain ⟨Oa, hga, hbody⟩ := hpa
      have was := hga.size
      have hlW := hl
      have hdW := hd
      have hnW := hn
      have hltW := hlt
      have gW : GrowE K (up Oc) (up Oa) W Wa := by
        refine ⟨hga.size, ?_, ?_, fun b hb h => hga.keep b hb (h.imp (fun h e => h (by rw [hup]; exact .inl e)) id)⟩
        · intro b hb h
          rw [hup] at h ⊢
          exact h.elim (fun h => .inl (hga.old b hb h)) .inr
        · intro b h
          rw [hup] at h
          rcases h with h | h | h
          · exact hga.new b h
          · omega
          · omega
      have hl := (hga.keep (B + 1) hlt (.inl hn.2)).trans hlW
      have hd := (hga.keep B (by omega) (.inl hn.1)).trans hdW
      have hn : ¬ Oa B ∧ ¬ Oa (B + 1) := ⟨fun h => hnW.1 (hga.old _ (by omega) h), fun h => hnW.2 (hga.old _ hlt h)⟩
      have hlt : B + 1 < Wa.heap.size := (Array.getElem?_eq_some_iff.1 hl).1
      refine ⟨_, run_beginRound hl (by rw [hrec]), ?_⟩
      obtain ⟨U, hU⟩ : ∃ U, Wa.putObj (B + 1) (.loop { rec .ready none with state := .busy }) = U := ⟨_, rfl⟩
      have ul : U.heap[B + 1]? = some (.loop { rec .ready none with state := .busy }) := by rw [← hU]; exact World.putObj_heap_same hlt
      have ud : U.heap[B]? = some (.deferred (some [])) := by rw [← hU]; exact (World.putObj_heap_other (by omega)).trans hd
      have us : U.heap.size = Wa.heap.size := by rw [← hU]; simp [World.putObj]
      have uo : ∀ b, b ≠ B + 1 → U.heap[b]? = Wa.heap[b]? := fun b hb => by rw [← hU]; exact World.putObj_heap_other hb
      have uT : Turn (fun b => ¬ Oa b) Wa U := by rw [← hU]; exact Turn.putObj Wa hn.2 _
      rw [hU]
      refine wpIn_mono (hbody U uT us fun y hy => uo _ fun e => (hx3 y hy).1 (by rw [hup]; exact .inr (.inr e))) ?_
      have fin : ∀ (jump : Option Code) (O2 : Nat → Prop) (W3 : World), GrowE K Oa O2 U W3 →
          (Instr.endRound (B + 1) jump).run P W3 = .ok (.bool jump.isNone) (W3.putObj (B + 1) (.loop (rec (if jump.isNone then .ready else .done) jump))) ∧
          (W3.putObj (B + 1) (.loop (rec (if jump.isNone then .ready else .done) jump))).heap[B + 1]? = some (.loop (rec (if jump.isNone then .ready else .done) jump)) ∧
          (W3.putObj (B + 1) (.loop (rec (if jump.isNone then .ready else .done) jump))).heap[B]? = some (.deferred (some [])) ∧
          (¬ O2 B ∧ ¬ O2 (B + 1)) ∧ GrowE K (up Oa) (up O2) Wa (W3.putObj (B + 1) (.loop (rec (if jump.isNone then .ready else .done) jump))) := fun jump O2 W3 hk => by
        have l3 : W3.heap[B + 1]? = some (.loop { rec .ready none with state := .busy }) := (hk.keep (B + 1) (by omega) (.inl hn.2)).trans ul
        have d3 : W3.heap[B]? = some (.deferred (some [])) := (hk.keep B (by omega) (.inl hn.1)).trans ud
        have n3 : ¬ O2 B ∧ ¬ O2 (B + 1) := ⟨fun h => hn.1 (hk.old _ (by omega) h), fun h => hn.2 (hk.old _ (by omega) h)⟩
        have hr := run_endRound (P := P) jump l3
        rw [hrec] at hr ⊢
        rw [hrec] at l3
        have hsz : ∀ o, (W3.putObj (B + 1) o).heap.size = W3.heap.size := fun o => by simp [World.putObj]
        have hks := hk.size
        refine ⟨hr, World.putObj_heap_same (Array.getElem?_eq_some_iff.1 l3).1, (World.putObj_heap_other (by omega)).trans d3, n3, ⟨by rw [hsz]; omega, ?_, ?_, ?_⟩⟩
        · intro b hb h
          rw [hup] at h ⊢
          exact h.elim (fun h => .inl (hk.old b (by omega) h)) .inr
        · intro b h
          rw [hup] at h
          rw [hsz]
          rcases h with h | h | h
          · exact hk.new b h
          · omega
          · omega
        · intro b hb h
          have hne : b ≠ B + 1 := by
            rintro rfl
            rcases h with h | h
            · exact h (by rw [hup]; exact .inr (.inr rfl))
            · have := hKl _ h; omega
          refine (World.putObj_heap_other hne).trans ((hk.keep b (by omega) ?_).trans (uo b hne))
          rcases h with h | h
          · exact .inl fun e => h (by rw [hup]; exact .inl e)
          · exact .inr h
      have jumps : ∀ (c : Code) (O2 : Nat → Prop) (W3 : World), GrowE K Oa O2 U W3 → Ix c (i + 1) O2 W3 → ∃ v w', (Instr.endRound (B + 1) (some c)).run P W3 = .ok v w' ∧ ∃ O', GrowE K (up Oc) O' W w' ∧
          ((Ending.returned v = .returned (.bool true) ∧ ∃ Oc', O' = up Oc' ∧ (¬ Oc' B ∧ ¬ Oc' (B + 1)) ∧ I (i + 1) Oc' w' ∧ w'.heap[B + 1]? = some (.loop (rec .ready none)) ∧ w'.heap[B]? = some (.deferred (some []))) ∨
           (Ending.returned v = .returned (.bool false) ∧ ∃ Oc', O' = up Oc' ∧ (¬ Oc' B ∧ ¬ Oc' (B + 1)) ∧ ∃ c, Ix c (i + 1) Oc' w' ∧ w'.heap[B + 1]? = some (.loop (rec .done (some c))) ∧ w'.heap[B]? = some (.deferred (some [])))) := fun c O2 W3 hk hc => by
        obtain ⟨hr, l4, d4, n3, hg⟩ := fin (some c) O2 W3 hk
        exact ⟨_, _, hr, up O2, gW.trans hg, .inr ⟨rfl, O2, rfl, n3, c, hIx c _ _ _ _ hc (Turn.putObj W3 n3.2 _), l4, d4⟩⟩
      rintro e a3 W3 hp
      cases e with
      | normal =>
        obtain ⟨O2, hk, hi3⟩ := hp
        obtain ⟨hr, l4, d4, n3, hg⟩ := fin none O2 W3 hk
        exact ⟨_, _, hr, up O2, gW.trans hg, .inl ⟨rfl, O2, rfl, n3, hI _ _ _ _ hi3 (Turn.putObj W3 n3.2 _), l4, d4⟩⟩
      | ret => obtain ⟨O2, hk, hi3⟩ := hp; exact jumps _ O2 W3 hk hi3
      | exit id => obtain ⟨O2, hk, hi3⟩ := hp; exact jumps _ O2 W3 hk hi3
      | goto t => obtain ⟨O2, hk, hi3⟩ := hp; exact jumps _ O2 W3 hk hi3
      | panic ch => exact hp.elim
      | outgrown => exact hp.elim
    · rintro e W2 ⟨⟨v, rfl⟩, (⟨O', Oc, rfl, hn, hi, hl, hd⟩ | ⟨i, hlen, O', Oc, rfl, hn, c, hi, hl, hd⟩)⟩
      · exact ⟨none, _, by have := run_endLoop (P := P) hl (by rw [hrec]; simp); rw [hrec] at this; exact this, hdone _ _ _ (by omega) hn.1 (hI _ _ _ _ hi (Turn.putObj W2 hn.2 _)) ((World.putObj_heap_other (by omega)).trans hd)⟩
      · exact ⟨some c, _, by have := run_endLoop (P := P) hl (by rw [hrec]; simp); rw [hrec] at this; exact this, hstop _ c i _ _ (by omega) hn.1 hlen (hIx c _ _ _ _ hi (Turn.putObj W2 hn.2 _)) ((World.putObj_heap_other (by omega)).trans hd)⟩


theorem flat_one {cs : List Objs} {D : Objs} : (cs ++ [D]).flatten = cs.flatten ++ D := by simp
theorem has_app {A D : Objs} {W : World} (hA : ∀ z ∈ A, W.heap[z.1]? = some z.2) (hn : A.Pairwise fun x y => x.1 ≠ y.1) (hD : Has D W) (hd : ∀ z ∈ A, ∀ y ∈ D, z.1 ≠ y.1) : Has (A ++ D) W :=
  ⟨fun z hz => (List.mem_append.1 hz).elim (hA z) (hD.obj z), List.pairwise_append.2 ⟨hn, hD.nd, hd⟩⟩
theorem OwnE.less {cs0 : List Objs} {D : Objs} {W0 W : World} {La : Ents} (h : OwnE (ids (cs0 ++ [D]).flatten) W0 (La ++ [.c D]) W) (hD : Has D W0) : ∃ ca, SatL La ca ∧ OwnS (ids cs0.flatten) W0 ca.flatten W ∧ (∀ z ∈ ca.flatten, ∀ y ∈ D, z.1 ≠ y.1) ∧ ∀ y ∈ D, W.heap[y.1]? = some y.2 := by
  obtain ⟨cs, hs, hO⟩ := h.conc
  obtain ⟨ca, e1, rfl, h1, h2⟩ := satL_split hs
  have h3 : e1 = [D] := by
    match e1, h2 with
    | [d], h2 => rw [show d = D from h2.1]
  subst h3
  rw [flat_one] at hO
  rw [flat_one] at hO
  have hdj : ∀ z ∈ ca.flatten, ∀ y ∈ D, z.1 ≠ y.1 := (List.pairwise_append.1 hO.nd).2.2
  refine ⟨ca, h1, ⟨fun x hx => hO.obj x (List.mem_append_left _ hx), (List.pairwise_append.1 hO.nd).1, fun x hx => ?_, hO.os, hO.tape, hO.output, hO.size, fun b hb hn => ?_⟩, hdj, fun y hy => hO.obj y (List.mem_append_right _ hy)⟩
  · rcases hO.lo x (List.mem_append_left _ hx) with h4 | h4
    · obtain ⟨y, hy, e⟩ := List.mem_map.1 h4
      rcases List.mem_append.1 hy with hy | hy
      · exact .inl (e ▸ List.mem_map_of_mem hy)
      · exact absurd e.symm (hdj x hx y hy)
    · exact .inr h4
  · by_cases hx : b ∈ ids D
    · obtain ⟨y, hy, e⟩ := List.mem_map.1 hx
      subst e
      exact (hO.obj y (List.mem_append_right _ hy)).trans (hD.obj y hy).symm
    · refine hO.far b hb fun h4 => ?_
      obtain ⟨y, hy, e⟩ := List.mem_map.1 h4
      rcases List.mem_append.1 hy with hy | hy
      · exact hn (e ▸ List.mem_map_of_mem hy)
      · exact hx (e ▸ List.mem_map_of_mem hy)
/-- What a round leaves behind: the yielded blocks stand as they stood. -/
def NextY (R1 : List Nat) (W1 : World) (d : Ent) (Rel : Ents → Prop) (W' : World) : Prop := ∃ L', OwnE R1 W1 (L' ++ [d]) W' ∧ Rel L'
theorem NextY.next {ca : List Objs} {D : Objs} {W1 W' : World} {Rel : Ents → Prop} (h : NextY (ids (ca ++ [D]).flatten) W1 (.c D) Rel W') (hD : Has D W1) : NextE (ids ca.flatten) W1 Rel W' := by
  obtain ⟨L', h1, h2⟩ := h
  obtain ⟨cb, h3, h4, _⟩ := h1.less hD
  exact ⟨L', OwnE.ofS h3 h4, h2⟩
theorem NextY.mk {R1 : List Nat} {W1 W' : World} {d : Ent} {L L' : Ents} {Rel : Ents → Prop} (OW : Hid (OwnE R1 W1 L W')) (ps : List Nat) (hr : Rel L') (he : (nodupB (ps.map fun p => [p]).flatten, (ps.map fun p => [p]).map fun g => g.map fun p => L[p]?) = (true, ((L' ++ [d]).map fun x => [x]).map fun N => N.map some) := by kernel_rfl) : NextY R1 W1 d Rel W' :=
  ⟨L', OW.out.pick ps (L' ++ [d]) he, hr⟩
def endY (R1 : List Nat) (W1 : World) (d : Ent) (Rel : Ents → Prop) (Rx : Code → Ents → Prop) : Exit → Act → World → Prop
  | .normal, _, W' => NextY R1 W1 d Rel W'
  | .ret, _, W' => NextY R1 W1 d (Rx .ret) W'
  | .exit id, _, W' => NextY R1 W1 d (Rx (.exit id)) W'
  | .goto t, _, W' => NextY R1 W1 d (Rx (.goto t)) W'
  | .panic _, _, _ => False
  | .outgrown, _, _ => False
/-- The contract of an iterator that reads the blocks KO, and yields blocks of its own. -/
def IterYE {α : Type} (n : Nat) (P : Program) (gf : Nat) (lb : Array Value) (encs : α → Array Value) (ds : α → Objs) (X : Nat → α → Prop) (N : Nat) (KO : Objs) : Prop :=
  IterY Fence.wide n P gf lb encs ds X N (fun b => ∃ x ∈ KO, x.1 = b) (Has KO)
theorem reE_iterY {α : Type} {n : Nat} {P : Program} {g : Operand} {ps : Array Tmp} {assign body : Code} {Q : Exit → Act → World → Prop} {a : Act} {W : World}
    (h1 : 1 ≤ n) {gf : Nat} {lb : Array Value} (hg : a.eval g = .func (.func gf) #[] lb) (eg : ∀ args w, (callFunc gf args).run P w = .ok (.enter gf args) w)
    {encs : α → Array Value} {ds : α → Objs} {X : Nat → α → Prop} {N : Nat} {KO : Objs} (hit : IterYE (n - 1) P gf lb encs ds X N KO)
    {R : List Nat} {base : World} (Rel : Nat → Ents → Prop) (Rx : Code → Nat → Ents → Prop) {L0 : Ents} (OW : Hid (OwnE R base L0 W)) (h0 : Rel 0 L0)
    (hKO : ∀ i L, Rel i L → Holds KO L) (hKx : ∀ c i L, Rx c i L → Holds KO L) (hnd : KO.Pairwise fun x y => x.1 ≠ y.1) (hps : ∀ x, (encs x).size = ps.size)
    (hround : ∀ (l i : Nat) (x : α) (L : Ents) (R1 : List Nat) (W : World), X i x → Rel i L → Hid (OwnE R1 W (L ++ [.c (ds x)]) W) →
      assign.wpIn (Fence.wide.inRound l) (n - 1 - 1) P (Exit.then (fun a' Wa => ∃ La, OwnE R1 W (La ++ [.c (ds x)]) Wa ∧ Holds KO La ∧ ∀ R2 W1, Hid (OwnE R2 W1 (La ++ [.c (ds x)]) W1) →
        body.wpIn (Fence.wide.inRound l) (n - 1 - 1) P (endY R2 W1 (.c (ds x)) (Rel (i + 1)) (fun c => Rx c (i + 1))) a' W1) (fun _ _ _ => False)) { tmps := putP a.tmps ps (encs x), defers := [] } W)
    (hdone : ∀ (D : Nat) (L : Ents) (W2 : World), Rel N L → Hid (OwnE R base (L ++ [mk D]) W2) → Q .normal { a with defers := markD D :: a.defers } W2)
    (hstop : ∀ (D : Nat) (c : Code) (i : Nat) (L : Ents) (W2 : World), i < N → Rx c (i + 1) L → Hid (OwnE R base (L ++ [mk D]) W2) → c.wpIn Fence.wide n P Q { a with defers := markD D :: a.defers } W2) :
    (Code.rangeFunc g ps assign body).wpIn Fence.wide n P Q a W := by
  unfold putP at hround
  obtain ⟨c0, hs0, hO0⟩ := OW.out.conc
  obtain ⟨m, hm⟩ : ∃ m, W.heap.size = m := ⟨_, rfl⟩
  obtain ⟨U, hUd⟩ : ∃ U : Nat → Prop, U = fun b => b < m ∧ b ∉ ids c0.flatten := ⟨_, rfl⟩
  have hU : ∀ b, U b → b < m := fun b h => by rw [hUd] at h; exact h.1
  have hUR : ∀ b, b < base.heap.size → b ∉ R → U b := fun b hb hn => by
    rw [hUd]
    refine ⟨by have := hO0.size; omega, fun hx => ?_⟩
    obtain ⟨y, hy, e⟩ := List.mem_map.1 hx
    rcases hO0.lo y hy with h | h
    · exact hn (by rw [← e]; exact h)
    · omega
  have hn0 : ∀ x ∈ c0.flatten, ¬ U x.1 := fun x hx h => by rw [hUd] at h; exact h.2 (List.mem_map_of_mem hx)
  have hset : ∀ b, setB U c0.flatten b → b < m := fun b h => by
    rcases h with h | ⟨x, hx, rfl⟩
    · exact hU b h
    · have := hO0.lt hx; omega
  have fin : ∀ (D : Nat) (O1 : Nat → Prop) (L : Ents) (cs : List Objs) (W2 : World), W.heap.size ≤ D → ¬ O1 D → O1 = setB U cs.flatten → SatL L cs → OwnS R base cs.flatten W2 → W2.heap[D]? = some (.deferred (some [])) → OwnE R base (L ++ [mk D]) W2 := by
    rintro D O1 L cs W2 hD hn rfl hs h hd
    refine OwnE.ofS (cs := cs ++ [[markO D]]) (satL_app hs ⟨rfl, trivial⟩) ?_
    rw [List.flatten_append]
    show OwnS R base (cs.flatten ++ [markO D]) W2
    refine ⟨?_, ?_, ?_, h.os, h.tape, h.output, h.size, h.far⟩
    · intro x hx
      rcases List.mem_append.1 hx with hx | hx
      · exact h.obj x hx
      · obtain rfl := List.mem_singleton.1 hx; exact hd
    · refine List.pairwise_append.2 ⟨h.nd, List.pairwise_singleton _ _, fun x hx y hy e => ?_⟩
      obtain rfl := List.mem_singleton.1 hy
      exact hn (.inr ⟨x, hx, e⟩)
    · intro x hx
      rcases List.mem_append.1 hx with hx | hx
      · exact h.lo x hx
      · obtain rfl := List.mem_singleton.1 hx
        exact .inr (Nat.le_trans hO0.size hD)
  have hK0 := (hKO 0 L0 h0).mem hs0
  refine iter_lawY (n := n) (F := Fence.wide) rfl h1 hg trivial eg hit (setB U c0.flatten) (fun W' hW' => ?_) (fun b hb => by have := hset b hb; omega) (fun b hb => ?_) hps (invE U m R base Rel) (fun c => invE U m R base (Rx c)) (invE.stay hUR) (fun c => invE.stay hUR) ⟨L0, c0, h0, hs0, rfl, hO0, by omega, hn0⟩ ?_ ?_ ?_
  · refine ⟨fun x hx => (hW' x.1 (hO0.lt (hK0 x hx))).trans (hO0.obj x (hK0 x hx)), ?_⟩
    exact hnd
  · obtain ⟨x, hx, rfl⟩ := hb
    exact hO0.lt (hK0 x hx)
  · rintro l i x O1 W0 hx hD0 hDn hs ⟨Ls0, cs0, hr, hsat, rfl, hO, hm0, hn1⟩
    have hdis : ∀ z ∈ cs0.flatten, ∀ y ∈ ds x, z.1 ≠ y.1 := fun z hz y hy e => (hDn y hy).1 (.inr ⟨z, hz, e⟩)
    have hH0 : Has (cs0.flatten ++ ds x) W0 := has_app (fun z hz => hO.obj z hz) hO.nd hD0 hdis
    have hS0 : SatL (Ls0 ++ [.c (ds x)]) (cs0 ++ [ds x]) := satL_app hsat ⟨rfl, trivial⟩
    refine wpIn_mono (hround l i x Ls0 (ids (cs0 ++ [ds x]).flatten) W0 hx hr (Lib.hid (OwnE.start hS0 (by rw [flat_one]; exact hH0)))) ?_
    intro e0 a' Wa hpa
    cases e0 with
    | normal => ?_
    | ret => exact hpa.elim
    | exit id => exact hpa.elim
    | goto t => exact hpa.elim
    | panic ch => exact hpa.elim
    | outgrown => exact hpa.elim
    obtain ⟨La, hOa, hLa, hbody⟩ := hpa
    obtain ⟨ca, hsa, hOa, hnd', hDa⟩ := hOa.less hD0
    obtain ⟨ga, hOW, hm1, hna⟩ := grow_of (K := fun b => ∃ x ∈ KO, x.1 = b) hOa hO hm0 hU hn1 (by
      rintro b ⟨x, hx, rfl⟩ _
      exact (hOa.obj x (hLa.mem hsa x hx)).trans (hO.obj x ((hKO _ _ hr).mem hsat x hx)).symm)
    refine ⟨_, ga, ?_⟩
    intro W1 tW sW hDW
    have hO1 : OwnS R base ca.flatten W1 := hOW.turn tW (fun x hx => .inr ⟨x, hx, rfl⟩) (fun b hb hn => .inl (hUR b hb hn))
    have hm2 : m ≤ W1.heap.size := by omega
    have hD1 : Has (ds x) W1 := ⟨fun y hy => (hDW y hy).trans (hDa y hy), hD0.nd⟩
    have hH1 : Has (ca.flatten ++ ds x) W1 := has_app (fun z hz => hO1.obj z hz) hO1.nd hD1 hnd'
    have hS1 : SatL (La ++ [.c (ds x)]) (ca ++ [ds x]) := satL_app hsa ⟨rfl, trivial⟩
    refine wpIn_mono (hbody (ids (ca ++ [ds x]).flatten) W1 (Lib.hid (OwnE.start hS1 (by rw [flat_one]; exact hH1)))) ?_
    intro e a' W' h
    cases e with
    | normal => exact (h.next hD1).grow hsa hO1 hm2 hU hna hLa (hKO (i + 1))
    | ret => exact (h.next hD1).grow (Rel := Rx .ret) hsa hO1 hm2 hU hna hLa (hKx .ret (i + 1))
    | exit id => exact (h.next hD1).grow (Rel := Rx (.exit id)) hsa hO1 hm2 hU hna hLa (hKx (.exit id) (i + 1))
    | goto t => exact (h.next hD1).grow (Rel := Rx (.goto t)) hsa hO1 hm2 hU hna hLa (hKx (.goto t) (i + 1))
    | panic c => exact h.elim
    | outgrown => exact h.elim
  · rintro D O1 W2 hD hn ⟨L, cs, hr, hs, he, hO, hm1, hn1⟩ hd
    exact hdone D L W2 hr (Lib.hid (fin D O1 L cs W2 hD hn he hs hO hd))
  · rintro D c i O1 W2 hD hn hi ⟨L, cs, hr, hs, he, hO, hm1, hn1⟩ hd
    exact hstop D c i L W2 hi hr (Lib.hid (fin D O1 L cs W2 hD hn he hs hO hd))


/-- The iterator's own side: what it yields stands among its blocks. -/
theorem iterY_of {α : Type} {n : Nat} {P : Program} {gf : Nat} {lb : Array Value} {encs : α → Array Value} {ds : α → Objs} {X : Nat → α → Prop} {N : Nat} {KO : Objs}
    (h : ∀ (l : Nat) (J Jx : Nat → (Nat → Prop) → World → Prop) (W : World) (KX : Objs) (NX : Nat), StayO J → Hid (KX = KO) → Hid (NX = N) →
      Hid (∀ (L : Objs) (j : Nat) (x : α) (wr : World), X j x → (∀ y ∈ ds x, y ∈ L) → (ds x).Pairwise (fun x y => x.1 ≠ y.1) → ItS J KO W L j wr → YieldAt Fence.wide (n - 1) P l (encs x) wr fun e W' => (e = .returned (.bool true) ∧ ItS J KO W L (j + 1) W') ∨ (e = .returned (.bool false) ∧ ∃ O', Jx (j + 1) O' W')) →
      Hid (ItS J KO W [] 0 W) → CallsIn Fence.wide n P gf (#[.func (.yield l) #[] #[]] ++ lb) W fun e W' => (∃ v, e = .returned v) ∧ ((∃ L, ItS J KX W L NX W') ∨ ∃ i, i < NX ∧ ∃ O', Jx (i + 1) O' W')) :
    IterYE n P gf lb encs ds X N KO := by
  intro l J Jx W O hSt hJ hJx hO hY h0
  refine (h l J Jx W KO N hJ (Lib.hid rfl) (Lib.hid rfl) (Lib.hid ?_) (Lib.hid ⟨⟨O, h0, fun _ h => by simp at h, hO⟩, Nat.le_refl _, by simpa using hSt⟩)).mono ?_
  · intro L j x wr hx hL hp hi
    obtain ⟨O1, h1, h2, h3⟩ := hi.ex
    have hD : Has (ds x) wr := ⟨fun y hy => hi.has.obj y (List.mem_append_right _ (hL y hy)), hp⟩
    refine (hY j x O1 wr hx hD (fun y hy => ⟨h2 y (hL y hy), fun ⟨z, hz, e⟩ => (List.pairwise_append.1 hi.has.nd).2.2 z hz y (hL y hy) e⟩) h1 hi.sz).mono ?_
    rintro e W' ⟨O', hg, h4 | h4⟩
    · refine .inl ⟨h4.1, ⟨O', h4.2, fun x hx hox => ?_, hg.new⟩, Nat.le_trans hi.sz hg.size, ⟨fun x hx => ?_, hi.has.nd⟩⟩
      · have hlt : x.1 < wr.heap.size := (Array.getElem?_eq_some_iff.1 (hi.has.obj x (List.mem_append_right _ hx))).1
        exact h2 x hx (hg.old _ hlt hox)
      · have hlt : x.1 < wr.heap.size := (Array.getElem?_eq_some_iff.1 (hi.has.obj x hx)).1
        rcases List.mem_append.1 hx with hx' | hx'
        · exact (hg.keep _ hlt (.inr ⟨x, hx', rfl⟩)).trans (hi.has.obj x hx)
        · exact (hg.keep _ hlt (.inl (h2 x hx'))).trans (hi.has.obj x hx)
    · exact .inr ⟨h4.1, O', h4.2⟩
  · rintro e W' ⟨hv, h4 | h4⟩
    · refine ⟨hv, .inl ?_⟩
      obtain ⟨L, hL⟩ := h4
      obtain ⟨O1, h5, _⟩ := hL.ex
      exact ⟨O1, h5⟩
    · exact ⟨hv, .inr h4⟩
end Go.Proofs.Ytdglhppcfdpcaaa.E
