/- A range over a function in a caller whose blocks stand in one list; the marks that such loops leave; the way out. No program in sight. -/
import Derived.Test.YtckhkagkpldoiaaOwn
import Derived.Test.YtckhkagkpldoiaaMk
namespace Go.Proofs.Ytckhkagkpldoiaa
open Go Go.RowKit Go.Shelf
set_option linter.unusedVariables false

section
variable {B : Nat} {base W W' : World} {L L' : Objs}
/-- Fewer objects, where none is older than the base. -/
theorem Own.sub (h : Own B base L W) (hB : base.heap.size ≤ B) (hs : ∀ x ∈ L', x ∈ L) (hn : L'.Pairwise (fun x y => x.1 ≠ y.1)) : Own B base L' W :=
  ⟨fun x hx => h.obj x (hs x hx), hn, fun x hx => h.lo x (hs x hx), h.os, h.tape, h.output, h.size, fun b hb _ => h.far b hb fun x hx e => by have := h.lo x hx; omega⟩
theorem Own.left {L1 L2 : Objs} (h : Own B base (L1 ++ L2) W) (hB : base.heap.size ≤ B) : Own B base L1 W :=
  h.sub hB (fun x hx => List.mem_append_left _ hx) (List.pairwise_append.1 h.nd).1
theorem Own.done (h : Own B base L W) (hB : Hid (base.heap.size = B)) : Below base.heap.size base W := by
  have := hB.out
  subst this
  exact h.below (Nat.le_refl _)
/-- In another order. -/
theorem Own.perm (h : Own B base L W) (hp : L.Perm L') : Own B base L' W :=
  ⟨fun x hx => h.obj x (hp.mem_iff.2 hx), hp.pairwise h.nd (fun h => Ne.symm h), fun x hx => h.lo x (hp.mem_iff.2 hx), h.os, h.tape, h.output, h.size, fun b hb hn => h.far b hb fun x hx => hn x (hp.mem_iff.1 hx)⟩
theorem Own.sublist (h : Own B base L W) (hB : base.heap.size ≤ B) (hs : L'.Sublist L) : Own B base L' W := h.sub hB (fun _ hx => hs.subset hx) (h.nd.sublist hs)
/-- A loop's mark goes to the marks; what it was called with goes. -/
theorem Own.mark {A M E : Objs} {m : Nat × Obj} (h : Own B base (A ++ M ++ E ++ [m]) W) (hB : Hid (base.heap.size = B)) : Own B base (A ++ m :: M) W := by
  have h1 : Own B base (A ++ M ++ [m]) W := h.sublist (Nat.le_of_eq hB.out) (List.Sublist.append (List.sublist_append_left _ _) (List.Sublist.refl _))
  refine h1.perm ?_
  rw [List.append_assoc]
  exact List.Perm.append_left A (List.perm_append_comm)
end

abbrev markD (D : Nat) : Deferred := { target := .collected D, args := #[] }
abbrev markO (D : Nat) : Nat × Obj := (D, .deferred (some []))

/-- The way out: the marks are shut one by one. -/
theorem leaves_own {F : Fence} {n : Nat} {P : Program} {fn : Func} {tmps : Array Value} {R : Ending → World → Prop} {B : Nat} {w : World} {L : Objs} : ∀ (Ds : List Nat) (W : World), w.heap.size ≤ B → Own B w (L ++ Ds.map markO) W →
    (∀ W', Own B w L W' → ∃ v, (results fn tmps).run P W' = .ok v W' ∧ R (.returned v) W') → LeavesInM F n P fn tmps R (Ds.map markD) .returning W
  | [], W, _, hO, h => h W (by simpa using hO)
  | D :: Ds, W, hB, hO, h => by
    have hk : (L ++ (D :: Ds).map markO)[L.length]? = some (markO D) := by rw [List.getElem?_append_right (Nat.le_refl _), Nat.sub_self]; rfl
    have hg := hO.get hk
    refine ⟨by simp, .inl ⟨D, _, rfl, run_takeDeferred hg, ?_⟩⟩
    refine leaves_own Ds _ hB ?_ h
    have h2 := hO.putObj hk (.deferred none)
    rw [List.set_append_right _ _ (Nat.le_refl _), Nat.sub_self, List.map_cons, List.set_cons_zero] at h2
    refine h2.sub hB (fun x hx => ?_) ?_
    · rcases List.mem_append.1 hx with hx | hx
      · exact List.mem_append_left _ hx
      · exact List.mem_append_right _ (List.mem_cons_of_mem _ hx)
    · have h3 := List.pairwise_append.1 h2.nd
      exact List.pairwise_append.2 ⟨h3.1, (List.pairwise_cons.1 h3.2.1).2, fun x hx y hy => h3.2.2 x hx y (List.mem_cons_of_mem _ hy)⟩

/-- The result's cell, at the way out. -/
theorem results_own {P : Program} {fn : Func} {tmps : Array Value} {B : Nat} {base W : World} {L : Objs} (hO : Own B base L W) (k : Nat) {p : Tmp} {ty : TypeId} (h : fn.results = #[.cell p ty]) {g : Nat} {t : TypeId} {cs : Array Value} (hk : L[k]? = some (g, .cells cs t (0, 0)))
    (hp : tmps.getD p undef = .pointer (some ⟨g, 0, none⟩)) {v : Value} (hv : cs[0]? = some v) (hna : ∀ w, (isAgg ty).run P w = .ok false w) : (results fn tmps).run P W = .ok v W := by
  have hp' : tmps[p]?.getD undef = .pointer (some ⟨g, 0, none⟩) := by simpa using hp
  simp [results, h, hp', asAddr, run_loadVar_cell (hna W) (((hO.blk hk).cell 0).trans hv)]

/-- The same, where the result is an array or a struct. -/
theorem results_ownRow {P : Program} {fn : Func} {tmps : Array Value} {B : Nat} {base W : World} {L : Objs} (hO : Own B base L W) (k : Nat) {p : Tmp} {ty : TypeId} (h : fn.results = #[.cell p ty]) {g : Nat} {t : TypeId} {cs : Array Value} (hk : L[k]? = some (g, .cells cs t (0, 0)))
    (hp : tmps.getD p undef = .pointer (some ⟨g, 0, none⟩)) {d : TypeDesc} (hu : P.underlying ty = some d) (hd : (match d with | .struct _ | .array _ _ => true | _ => false) = true) (hi : (P.info? ty).map (·.size) = some cs.size) : (results fn tmps).run P W = .ok (.agg cs) W :=
  results_cell_row h tmps W g t cs (0, 0) d hp (hO.get hk) hu hd hi
/-- What a round leaves behind. -/
def OwnNext (B : Nat) (K : Nat → Prop) (W1 : World) (Ls : Objs) (Rel : Objs → Prop) (W' : World) : Prop :=
  ∃ Lend Ls', Own B W1 Lend W' ∧ (∀ y ∈ Ls', y ∈ Lend) ∧ Ls'.Pairwise (fun x y => x.1 ≠ y.1) ∧ Rel Ls' ∧ (∀ y ∈ Lend, (∃ x ∈ Ls, x.1 = y.1) ∨ W1.heap.size ≤ y.1) ∧ (∀ x ∈ Ls, ∃ y ∈ Lend, y.1 = x.1) ∧
    (∀ b, K b → b < B ∨ ∃ x, x ∈ Ls ∧ x ∈ Lend ∧ x.1 = b) ∧ (∀ y ∈ Lend, y.2.isCells = true ∨ ∃ x ∈ Ls, x.1 = y.1 ∧ x.2.isCells = false)
/-- The same blocks, and new ones. -/
theorem OwnNext.mkB {B : Nat} {K : Nat → Prop} {W1 : World} {Ls L1 E : Objs} {Rel : Objs → Prop} {W' : World} (h : Own B W1 (L1 ++ E) W') (hE : ∀ x ∈ E, W1.heap.size ≤ x.1) (hs : L1.map (·.1) = Ls.map (·.1)) (hr : Rel L1)
    (hK : ∀ b, K b → b < B ∨ ∃ x, x ∈ Ls ∧ x ∈ L1 ∧ x.1 = b) (hc : ∀ y ∈ L1 ++ E, y.2.isCells = true ∨ ∃ x ∈ Ls, x.1 = y.1 ∧ x.2.isCells = false) : OwnNext B K W1 Ls Rel W' := by
  have m1 : ∀ {A C : Objs}, A.map (·.1) = C.map (·.1) → ∀ x ∈ A, ∃ y ∈ C, y.1 = x.1 := fun {A C} e x hx => by
    have : x.1 ∈ C.map (·.1) := by rw [← e]; exact List.mem_map_of_mem hx
    obtain ⟨y, hy, e⟩ := List.mem_map.1 this
    exact ⟨y, hy, e⟩
  refine ⟨L1 ++ E, L1, h, fun y hy => List.mem_append_left _ hy, (List.pairwise_append.1 h.nd).1, hr, fun y hy => ?_, fun x hx => ?_, fun b hb => ?_, hc⟩
  · rcases List.mem_append.1 hy with hy | hy
    · exact .inl (m1 hs y hy)
    · exact .inr (hE y hy)
  · obtain ⟨y, hy, e⟩ := m1 hs.symm x hx
    exact ⟨y, List.mem_append_left _ hy, e⟩
  · rcases hK b hb with h | ⟨x, h1, h2, h3⟩
    · exact .inl h
    · exact .inr ⟨x, h1, List.mem_append_left _ h2, h3⟩
/-- The same blocks, marks among them, and new ones. -/
theorem OwnNext.mk3B {B : Nat} {K : Nat → Prop} {W1 : World} {A A' M C C' : Objs} (E : Objs) {Rel : Objs → Prop} {W' : World} (h : Own B W1 (A' ++ M ++ C' ++ E) W') (hE : ∀ x ∈ E, W1.heap.size ≤ x.1) (hs : A'.map (·.1) = A.map (·.1)) (hs2 : C'.map (·.1) = C.map (·.1)) (hr : Rel (A' ++ M ++ C'))
    (hK : ∀ b, K b → b < B ∨ ∃ x, x ∈ A ++ M ++ C ∧ x ∈ A' ++ M ++ C' ∧ x.1 = b) (hA : (A'.all fun y => y.2.isCells) = true) (hC : (C'.all fun y => y.2.isCells) = true) (hEc : (E.all fun y => y.2.isCells) = true) : OwnNext B K W1 (A ++ M ++ C) Rel W' := by
  refine OwnNext.mkB h hE (by simp [hs, hs2]) hr hK fun y hy => ?_
  simp only [List.mem_append] at hy
  rcases hy with ((h1 | h1) | h1) | h1
  · exact .inl (List.all_eq_true.1 hA y h1)
  · cases hc : y.2.isCells with
    | true => exact .inl rfl
    | false => exact .inr ⟨y, by simp [h1], rfl, hc⟩
  · exact .inl (List.all_eq_true.1 hC y h1)
  · exact .inl (List.all_eq_true.1 hEc y h1)
theorem OwnNext.mk' {B : Nat} {K : Nat → Prop} {W1 : World} {Ls L1 E : Objs} {Rel : Objs → Prop} {W' : World} (h : Own B W1 (L1 ++ E) W') (hE : ∀ x ∈ E, W1.heap.size ≤ x.1) (hs : L1.map (·.1) = Ls.map (·.1)) (hr : Rel L1)
    (hK : ∀ b, K b → ∃ x, x ∈ Ls ∧ x ∈ L1 ∧ x.1 = b) (hc : ∀ y ∈ L1 ++ E, y.2.isCells = true ∨ ∃ x ∈ Ls, x.1 = y.1 ∧ x.2.isCells = false) : OwnNext B K W1 Ls Rel W' :=
  OwnNext.mkB h hE hs hr (fun b hb => .inr (hK b hb)) hc
theorem OwnNext.mk3 {B : Nat} {K : Nat → Prop} {W1 : World} {A A' M C C' : Objs} (E : Objs) {Rel : Objs → Prop} {W' : World} (h : Own B W1 (A' ++ M ++ C' ++ E) W') (hE : ∀ x ∈ E, W1.heap.size ≤ x.1) (hs : A'.map (·.1) = A.map (·.1)) (hs2 : C'.map (·.1) = C.map (·.1)) (hr : Rel (A' ++ M ++ C'))
    (hK : ∀ b, K b → ∃ x, x ∈ A ++ M ++ C ∧ x ∈ A' ++ M ++ C' ∧ x.1 = b) (hA : (A'.all fun y => y.2.isCells) = true) (hC : (C'.all fun y => y.2.isCells) = true) (hEc : (E.all fun y => y.2.isCells) = true) : OwnNext B K W1 (A ++ M ++ C) Rel W' :=
  OwnNext.mk3B E h hE hs hs2 hr (fun b hb => .inr (hK b hb)) hA hC hEc
def ownEnd (B : Nat) (K : Nat → Prop) (W1 : World) (Ls : Objs) (Rel : Objs → Prop) (Rx : Code → Objs → Prop) : Exit → Act → World → Prop
  | .normal, _, W' => OwnNext B K W1 Ls Rel W'
  | .ret, _, W' => OwnNext B K W1 Ls (Rx .ret) W'
  | .exit id, _, W' => OwnNext B K W1 Ls (Rx (.exit id)) W'
  | .goto t, _, W' => OwnNext B K W1 Ls (Rx (.goto t)) W'
  | .panic _, _, _ => False
  | .outgrown, _, _ => False

/-- The set of the caller's blocks. -/
def ownSet (m : Nat) (Ls : Objs) (b : Nat) : Prop := b < m ∨ ∃ x ∈ Ls, x.1 = b
theorem OwnNext.grow {B m : Nat} {K : Nat → Prop} {w W1 W' : World} {Ls : Objs} {Rel : Objs → Prop} (h : OwnNext B K W1 Ls Rel W') (hw : w.heap.size = B) (hO : Own B w Ls W1) (hm : m ≤ W1.heap.size) :
    ∃ Ls', Rel Ls' ∧ Own B w Ls' W' ∧ Grow K (ownSet m Ls) (ownSet m Ls') W1 W' := by
  obtain ⟨Lend, Ls', h1, h2, h3, h4, h5, h6, h7, h8⟩ := h
  refine ⟨Ls', h4, ((hO.trans h1 h6).sub (by omega) h2 h3), ⟨h1.size, ?_, ?_, ?_, ?_⟩⟩
  · rintro b hb (h | ⟨y, hy, rfl⟩)
    · exact .inl h
    · rcases h5 y (h2 y hy) with ⟨x, hx, e⟩ | h
      · exact .inr ⟨x, hx, e⟩
      · omega
  · rintro b (h | ⟨y, hy, rfl⟩)
    · have := h1.size; omega
    · exact h1.lt (h2 y hy)
  · rintro b o hb ho hc
    by_cases hy : ∃ y ∈ Lend, y.1 = b
    · obtain ⟨y, hy, rfl⟩ := hy
      have h9 := (h1.obj y hy).symm.trans ho
      cases h9
      rcases h8 y hy with h | ⟨x, hx, e1, e2⟩
      · rw [h] at hc; cases hc
      · exact ⟨x.2, by rw [← e1]; exact hO.obj x hx, e2⟩
    · have hbm : b < W1.heap.size := by
        rcases hb with h | ⟨y, hy2, e⟩
        · omega
        · exact (hy ⟨y, h2 y hy2, e⟩).elim
      exact ⟨o, (h1.far b hbm fun y hy2 e => hy ⟨y, hy2, e⟩).symm.trans ho, hc⟩
  · intro b hb hk
    rcases hk with hk | hk
    · refine h1.far b hb fun y hy e => ?_
      rcases h5 y hy with ⟨x, hx, e2⟩ | h
      · exact hk (.inr ⟨x, hx, e2.trans e⟩)
      · omega
    · rcases h7 b hk with hlo | ⟨x, hx1, hx2, rfl⟩
      · exact h1.far b hb fun y hy e => by have := h1.lo y hy; omega
      · exact (h1.obj x hx2).trans (hO.obj x hx1).symm

/-- What stands between the rounds. -/
def ownInv (B m : Nat) (w : World) (Rel : Nat → Objs → Prop) (i : Nat) (O : Nat → Prop) (W : World) : Prop :=
  ∃ Ls, Rel i Ls ∧ O = ownSet m Ls ∧ Own B w Ls W ∧ m ≤ W.heap.size
theorem ownInv.stay {B m : Nat} {w : World} {Rel : Nat → Objs → Prop} (hm : w.heap.size ≤ m) : StayO (ownInv B m w Rel) := by
  rintro i O W W' ⟨Ls, h1, rfl, h3, h4⟩ t
  exact ⟨Ls, h1, rfl, h3.turn t (fun x hx => .inr ⟨x, hx, rfl⟩) (fun b hb => .inl (by omega)), Nat.le_trans h4 t.size⟩

theorem own_iterB {α : Type} {F : Fence} {n : Nat} {P : Program} {g : Operand} {ps : Array Tmp} {assign body : Code} {Q : Exit → Act → World → Prop} {a : Act} {W : World}
    (hro : F.round = none) (h1 : 1 ≤ n) {gf : Nat} {lb : Array Value} (hg : a.eval g = .func (.func gf) #[] lb) (hFg : F.fn gf) (eg : ∀ args w, (callFunc gf args).run P w = .ok (.enter gf args) w)
    {encs : α → Array Value} {xs : List α} {K : Nat → Prop} {St : World → Prop} (hit : Iter3 F (n - 1) P gf lb encs xs (fun _ => False) K St)
    {B m : Nat} {w : World} (hw : w.heap.size = B) (Rel : Nat → Objs → Prop) (Rx : Code → Nat → Objs → Prop) {Ls0 : Objs} (h0 : Rel 0 Ls0) (OW : Hid (Own B w Ls0 W)) (OZ : Hid (W.heap.size = m ∧ B ≤ m))
    (hSt : ∀ W', (∀ b, b < W.heap.size → W'.heap[b]? = W.heap[b]?) → St W') (hK : ∀ b, K b → b < B ∨ ∃ x ∈ Ls0, x.1 = b) (hps : ∀ x, (encs x).size = ps.size) (a₁ : α → Act)
    (hassign : ∀ (l : Nat) (x : α) (W : World) (Kt : Act → World → Prop), Kt (a₁ x) W →
      assign.wpIn (F.inRound l) (n - 1 - 1) P (Exit.then Kt (fun _ _ _ => False)) { tmps := (ps.zip (encs x)).foldl (fun t (p, v) => t.setIfInBounds p v) a.tmps, defers := [] } W)
    (hbody : ∀ (l i : Nat) (x : α) (Ls : Objs) (W1 : World) (G1 : Nat), xs[i]? = some x → Rel i Ls → Hid (Own B w Ls W1) → Hid (Own B W1 Ls W1) → Hid (W1.heap.size = G1 ∧ B ≤ G1) → Hid (m + 2 ≤ G1) →
      body.wpIn (F.inRound l) (n - 1 - 1) P (ownEnd B K W1 Ls (Rel (i + 1)) (fun c => Rx c (i + 1))) (a₁ x) W1)
    (hdone : ∀ (D : Nat) (Ls : Objs) (W2 : World) (G2 : Nat), Rel xs.length Ls → Hid (Own B w (Ls ++ [markO D]) W2) → Hid (W2.heap.size = G2 ∧ B ≤ G2) → Q .normal { a with defers := markD D :: a.defers } W2)
    (hstop : ∀ (D : Nat) (c : Code) (i : Nat) (Ls : Objs) (W2 : World) (G2 : Nat), i < xs.length → Rx c (i + 1) Ls → Hid (Own B w (Ls ++ [markO D]) W2) → Hid (W2.heap.size = G2 ∧ B ≤ G2) → c.wpIn F n P Q { a with defers := markD D :: a.defers } W2) :
    (Code.rangeFunc g ps assign body).wpIn F n P Q a W := by
  obtain ⟨z1, z2⟩ := OZ
  have hlt : ∀ x ∈ Ls0, x.1 < m := fun x hx => by have := OW.out.lt hx; omega
  have hset : ownSet m Ls0 = fun b => b < m := by
    funext b
    refine propext ⟨fun h => ?_, fun h => .inl h⟩
    rcases h with h | ⟨x, hx, rfl⟩
    · exact h
    · exact hlt x hx
  have fin : ∀ (D : Nat) (O1 : Nat → Prop) (Ls : Objs) (W2 : World), W.heap.size ≤ D → ¬ O1 D → O1 = ownSet m Ls → Own B w Ls W2 → W2.heap[D]? = some (.deferred (some [])) → Own B w (Ls ++ [markO D]) W2 := by
    rintro D O1 Ls W2 hD hn rfl h hd
    refine ⟨?_, ?_, ?_, h.os, h.tape, h.output, h.size, fun b hb hx => h.far b hb fun x hx2 => hx x (List.mem_append_left _ hx2)⟩
    · intro x hx
      rcases List.mem_append.1 hx with hx | hx
      · exact h.obj x hx
      · obtain rfl := List.mem_singleton.1 hx; exact hd
    · refine List.pairwise_append.2 ⟨h.nd, List.pairwise_singleton _ _, fun x hx y hy e => ?_⟩
      obtain rfl := List.mem_singleton.1 hy
      exact hn (.inr ⟨x, hx, e⟩)
    · intro x hx
      rcases List.mem_append.1 hx with hx | hx
      · exact h.lo x hx
      · obtain rfl := List.mem_singleton.1 hx
        show B ≤ D
        omega
  refine iter_law3 (n := n) hro h1 hg hFg eg hit (ownSet m Ls0) hSt (fun b hb => ?_) (fun _ h => h.elim) (fun b hb => ?_) hps (ownInv B m w Rel) (fun c => ownInv B m w (Rx c)) (ownInv.stay (by omega)) (fun c => ownInv.stay (by omega)) ⟨Ls0, h0, rfl, OW.out, by omega⟩ a₁ hassign ?_ ?_ ?_
  · rw [hset] at hb; have hb' : b < m := hb; omega
  · rcases hK b hb with h | ⟨x, hx, rfl⟩
    · omega
    · have := hlt x hx; omega
  · rintro l i x O1 W1 hx hs ⟨Ls, hr, rfl, hO, hm⟩
    have hb := hbody l i x Ls W1 W1.heap.size hx hr hO hO.rebase ⟨rfl, by omega⟩ (by show m + 2 ≤ _; omega)
    refine wpIn_mono hb ?_
    have key : ∀ (Rl : Nat → Objs → Prop) (W' : World), OwnNext B K W1 Ls (Rl (i + 1)) W' → ∃ O', Grow K (ownSet m Ls) O' W1 W' ∧ ownInv B m w Rl (i + 1) O' W' := fun Rl W' h => by
      obtain ⟨Ls', e1, e2, e3⟩ := h.grow hw hO hm
      exact ⟨_, e3, Ls', e1, rfl, e2, Nat.le_trans hm e3.size⟩
    intro e a' W' h
    cases e with
    | normal => exact key Rel W' h
    | ret => exact key (Rx .ret) W' h
    | exit id => exact key (Rx (.exit id)) W' h
    | goto t => exact key (Rx (.goto t)) W' h
    | panic c => exact h.elim
    | outgrown => exact h.elim
  · rintro D O1 W2 hD hn ⟨Ls, hr, he, hO, hm⟩ hd
    exact hdone D Ls W2 _ hr (fin D O1 Ls W2 hD hn he hO hd) ⟨rfl, by omega⟩
  · rintro D c i O1 W2 hD hn hi ⟨Ls, hr, he, hO, hm⟩ hd
    exact hstop D c i Ls W2 _ hi hr (fin D O1 Ls W2 hD hn he hO hd) ⟨rfl, by omega⟩

theorem own_iter {α : Type} {F : Fence} {n : Nat} {P : Program} {g : Operand} {ps : Array Tmp} {assign body : Code} {Q : Exit → Act → World → Prop} {a : Act} {W : World}
    (hro : F.round = none) (h1 : 1 ≤ n) {gf : Nat} {lb : Array Value} (hg : a.eval g = .func (.func gf) #[] lb) (hFg : F.fn gf) (eg : ∀ args w, (callFunc gf args).run P w = .ok (.enter gf args) w)
    {encs : α → Array Value} {xs : List α} {K : Nat → Prop} {St : World → Prop} (hit : Iter3 F (n - 1) P gf lb encs xs (fun _ => False) K St)
    {B m : Nat} {w : World} (hw : w.heap.size = B) (Rel : Nat → Objs → Prop) (Rx : Code → Nat → Objs → Prop) {Ls0 : Objs} (h0 : Rel 0 Ls0) (OW : Hid (Own B w Ls0 W)) (OZ : Hid (W.heap.size = m ∧ B ≤ m))
    (hSt : ∀ W', (∀ b, b < W.heap.size → W'.heap[b]? = W.heap[b]?) → St W') (hK : ∀ b, K b → ∃ x ∈ Ls0, x.1 = b) (hps : ∀ x, (encs x).size = ps.size) (a₁ : α → Act)
    (hassign : ∀ (l : Nat) (x : α) (W : World) (Kt : Act → World → Prop), Kt (a₁ x) W →
      assign.wpIn (F.inRound l) (n - 1 - 1) P (Exit.then Kt (fun _ _ _ => False)) { tmps := (ps.zip (encs x)).foldl (fun t (p, v) => t.setIfInBounds p v) a.tmps, defers := [] } W)
    (hbody : ∀ (l i : Nat) (x : α) (Ls : Objs) (W1 : World) (G1 : Nat), xs[i]? = some x → Rel i Ls → Hid (Own B w Ls W1) → Hid (Own B W1 Ls W1) → Hid (W1.heap.size = G1 ∧ B ≤ G1) → Hid (m + 2 ≤ G1) →
      body.wpIn (F.inRound l) (n - 1 - 1) P (ownEnd B K W1 Ls (Rel (i + 1)) (fun c => Rx c (i + 1))) (a₁ x) W1)
    (hdone : ∀ (D : Nat) (Ls : Objs) (W2 : World) (G2 : Nat), Rel xs.length Ls → Hid (Own B w (Ls ++ [markO D]) W2) → Hid (W2.heap.size = G2 ∧ B ≤ G2) → Q .normal { a with defers := markD D :: a.defers } W2)
    (hstop : ∀ (D : Nat) (c : Code) (i : Nat) (Ls : Objs) (W2 : World) (G2 : Nat), i < xs.length → Rx c (i + 1) Ls → Hid (Own B w (Ls ++ [markO D]) W2) → Hid (W2.heap.size = G2 ∧ B ≤ G2) → c.wpIn F n P Q { a with defers := markD D :: a.defers } W2) :
    (Code.rangeFunc g ps assign body).wpIn F n P Q a W :=
  own_iterB hro h1 hg hFg eg hit hw Rel Rx h0 OW OZ hSt (fun b hb => .inr (hK b hb)) hps a₁ hassign hbody hdone hstop

/-- An element of an array. -/
theorem run_index_agg {P : Program} {t e : TypeId} {n : Nat} {cs : Array Value} {k : IntKind} {i : Nat} {v : Value} {w : World} (h : P.underlying t = some (.array n e)) (hi : i < n) (hna : ∀ w, (isAgg e).run P w = .ok false w) (hsz : (P.info? e).map (·.size) = some 1) (hv : cs[i]? = some v) :
    (Instr.index t (.agg cs) (.int k (i : Int))).run P w = .ok v w := by
  cases hq : P.info? e with
  | none => simp [hq] at hsz
  | some inf =>
    have hs : inf.size = 1 := by simpa [hq] using hsz
    unfold Instr.index
    simp [asIntOf, Sem.run_bind, run_underlying h, sizeOf, typeInfo, hq, hs, part, hna, hv, hi]

/-- Values put into slots. -/
def putSlots : List Nat → (Nat → Value) → Array Value → Array Value
  | [], _, t => t
  | s :: ss, f, t => putSlots ss f (t.setIfInBounds s (f s))
theorem putSlots_same (f : Nat → Value) (t : Array Value) (hf : ∀ s, f s = t.getD s undef) : ∀ l : List Nat, putSlots l f t = t
  | [] => rfl
  | s :: ss => by
    have h := put_same ⟨t, []⟩ (some s) (f s) (fun d e => by cases e; exact (hf s).symm)
    have h2 : t.setIfInBounds s (f s) = t := congrArg Act.tmps h
    unfold putSlots
    rw [h2]
    exact putSlots_same f t hf ss
/-- A round of a loop whose rounds may leave marks has ended. -/
def MarksEnd (slots : List Nat) (t0 : Array Value) (Rel : (Nat → Value) → List Nat → World → Prop) (μ : (Nat → Value) → Nat) (m : Nat) (a' : Act) (w' : World) : Prop :=
  ∃ Ds', a'.defers = Ds'.map markD ∧ a'.tmps = putSlots slots (fun s => a'.tmps.getD s undef) t0 ∧ Rel (fun s => a'.tmps.getD s undef) Ds' w' ∧ μ (fun s => a'.tmps.getD s undef) < m
theorem wpIn_loop_marks {F : Fence} {n : Nat} {P : Program} {c : Code} {Q : Exit → Act → World → Prop} {a : Act} {w : World} (slots : List Nat) (Rel : (Nat → Value) → List Nat → World → Prop) (μ : (Nat → Value) → Nat) (Ds0 : List Nat) (hd0 : a.defers = Ds0.map markD)
    (h0 : Rel (fun s => a.tmps.getD s undef) Ds0 w)
    (round : ∀ (f : Nat → Value) (Ds : List Nat) (wr : World), Rel f Ds wr → c.wpIn F n P (Exit.then (MarksEnd slots a.tmps Rel μ (μ f)) Q) ⟨putSlots slots f a.tmps, Ds.map markD⟩ wr) : (Code.loop c).wpIn F n P Q a w := by
  refine wpIn_loop (fun a' w' => ∃ f Ds, a' = ⟨putSlots slots f a.tmps, Ds.map markD⟩ ∧ Rel f Ds w' ∧ μ f = μ (fun s => a'.tmps.getD s undef)) (fun a' _ => μ (fun s => a'.tmps.getD s undef)) ?_ ?_
  · refine ⟨_, Ds0, ?_, h0, rfl⟩
    rw [putSlots_same _ _ (fun _ => rfl), ← hd0]
  · rintro a' wr ⟨f, Ds, rfl, hr, hm⟩
    refine wpIn_mono (round f Ds wr hr) ?_
    intro e a2 w2 h
    cases e with
    | normal =>
      obtain ⟨Ds', h1, h2, h3, h4⟩ := h
      refine ⟨⟨_, Ds', ?_, h3, rfl⟩, by show μ _ < μ _; rw [← hm]; exact h4⟩
      rw [← h2, ← h1]
    | ret => exact h
    | exit id => exact h
    | goto t => exact h
    | panic c => exact h
    | outgrown => exact h
end Go.Proofs.Ytckhkagkpldoiaa
