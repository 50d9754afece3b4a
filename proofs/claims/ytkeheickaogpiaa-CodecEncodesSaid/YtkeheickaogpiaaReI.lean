/- Ranges over functions, the marks that they leave, iterators: for regions by evaluation. No program in sight. -/
import Derived.Test.YtkeheickaogpiaaReY
import Derived.Test.YtkeheickaogpiaaRfA
import Derived.Test.YtkeheickaogpiaaOwA
namespace Go.Proofs.Ytkeheickaogpiaa
open Go Go.RowKit Go.Shelf

section
variable {R R0 : List Nat} {base w W W' W1 : World} {L L' K : Objs} {Ds : List Nat}
theorem OwnS.turn {O : Nat → Prop} (h : OwnS R base L W) (t : Turn (fun b => ¬ O b) W W') (hL : ∀ x ∈ L, O x.1) (hf : ∀ b, b < base.heap.size → b ∉ R → O b) : OwnS R base L W' :=
  ⟨fun x hx => t.heap (fun e => e (hL x hx)) (h.obj x hx), h.nd, h.lo, t.os.trans h.os, t.tape.trans h.tape, t.output.trans h.output, Nat.le_trans h.size t.size,
    fun b hb hn => (t.same b (Nat.lt_of_lt_of_le hb h.size) (fun e => e (hf b hb hn))).trans (h.far b hb hn)⟩
theorem OwnS.join (h : OwnS R base L W) (k : OwnS (L.map (·.1)) W L' W') : OwnS R base L' W' :=
  ⟨k.obj, k.nd, fun x hx => (k.lo x hx).elim (fun hm => by obtain ⟨y, hy, e⟩ := List.mem_map.1 hm; rw [← e]; exact h.lo y hy) (fun hm => .inr (Nat.le_trans h.size hm)), k.os.trans h.os, k.tape.trans h.tape, k.output.trans h.output, Nat.le_trans h.size k.size,
    fun b hb hn => (k.far b (Nat.lt_of_lt_of_le hb h.size) fun hm => by
      obtain ⟨y, hy, e⟩ := List.mem_map.1 hm
      rcases h.lo y hy with h1 | h1
      · exact hn (by rw [← e]; exact h1)
      · omega).trans (h.far b hb hn)⟩
theorem OwnS.has (h : OwnS R base L W) : Has L W := ⟨h.obj, h.nd⟩
theorem OwnS.anew (h : OwnS R base L W) : OwnS (L.map (·.1)) W L W := OwnS.start h.has
/-- What is told of the blocks from here on is told of the call's own, and of its marks. -/
def Clo (R : List Nat) (base : World) (R0 : List Nat) (w : World) (Ds : List Nat) : Prop := ∀ L W, OwnS R base L W → OwnS R0 w (L ++ Ds.map markO) W
theorem Clo.nil (R0 : List Nat) (w : World) : Clo R0 w R0 w [] := fun L W h => by simpa using h
theorem OwnS.seg (h : OwnS R0 w (L ++ Ds.map markO) W) : Clo (L.map (·.1)) W R0 w Ds := by
  intro L' W' k
  have hp := List.pairwise_append.1 h.nd
  have hm : ∀ {D : Nat}, D ∈ Ds → markO D ∈ L ++ Ds.map markO := fun hD => List.mem_append_right _ (List.mem_map_of_mem hD)
  have hnot : ∀ {D : Nat}, D ∈ Ds → D ∉ L.map (·.1) := fun hD hx => by
    obtain ⟨y, hy, e⟩ := List.mem_map.1 hx
    exact hp.2.2 y hy _ (List.mem_map_of_mem hD) e
  refine ⟨fun x hx => ?_, ?_, fun x hx => ?_, k.os.trans h.os, k.tape.trans h.tape, k.output.trans h.output, Nat.le_trans h.size k.size, fun b hb hn => ?_⟩
  · rcases List.mem_append.1 hx with hx | hx
    · exact k.obj x hx
    · obtain ⟨D, hD, rfl⟩ := List.mem_map.1 hx
      exact (k.far D (h.lt (hm hD)) (hnot hD)).trans (h.obj _ (hm hD))
  · refine List.pairwise_append.2 ⟨k.nd, hp.2.1, fun x hx y hy e => ?_⟩
    obtain ⟨D, hD, rfl⟩ := List.mem_map.1 hy
    rcases k.lo x hx with h1 | h1
    · exact hnot hD (by rw [← show x.1 = D from e]; exact h1)
    · have := h.lt (hm hD)
      have e' : x.1 = D := e
      have h2 : (markO D).1 = D := rfl
      omega
  · rcases List.mem_append.1 hx with hx | hx
    · rcases k.lo x hx with h1 | h1
      · obtain ⟨y, hy, e⟩ := List.mem_map.1 h1
        rw [← e]
        exact h.lo y (List.mem_append_left _ hy)
      · exact .inr (Nat.le_trans h.size h1)
    · exact h.lo x (List.mem_append_right _ hx)
  · refine (k.far b (Nat.lt_of_lt_of_le hb h.size) fun hx => ?_).trans (h.far b hb hn)
    obtain ⟨y, hy, e⟩ := List.mem_map.1 hx
    rcases h.lo y (List.mem_append_left _ hy) with h1 | h1
    · exact hn (by rw [← e]; exact h1)
    · omega
theorem Clo.mark {D : Nat} (c : Clo R base R0 w Ds) (h : OwnS R base (L ++ [markO D]) W) : Clo (L.map (·.1)) W R0 w (D :: Ds) := by
  intro L' W' k
  have h1 : OwnS R base (L ++ [D].map markO) W := h
  have h2 := c _ _ (h1.seg L' W' k)
  simpa using h2
theorem OwnS.unmark {D : Nat} {M : Objs} (o : Obj) (h : OwnS R base (L ++ markO D :: M) W) : OwnS R base (L ++ M) (W.putObj D o) := by
  have hp := List.pairwise_append.1 h.nd
  have hpc := List.pairwise_cons.1 hp.2.1
  have hD : markO D ∈ L ++ markO D :: M := by simp
  have hne : ∀ x ∈ L ++ M, x.1 ≠ D := fun x hx => by
    rcases List.mem_append.1 hx with hx | hx
    · exact hp.2.2 x hx (markO D) (by simp)
    · exact Ne.symm (hpc.1 x hx)
  have hin : ∀ x ∈ L ++ M, x ∈ L ++ markO D :: M := fun x hx => by
    rcases List.mem_append.1 hx with hx | hx
    · exact List.mem_append_left _ hx
    · exact List.mem_append_right _ (List.mem_cons_of_mem _ hx)
  refine ⟨fun x hx => (World.putObj_heap_other (hne x hx)).trans (h.obj x (hin x hx)), ?_, fun x hx => h.lo x (hin x hx), h.os, h.tape, h.output, by simpa [World.putObj] using h.size, fun b hb hn => ?_⟩
  · exact List.pairwise_append.2 ⟨hp.1, hpc.2, fun x hx y hy => hp.2.2 x hx y (List.mem_cons_of_mem _ hy)⟩
  · refine (World.putObj_heap_other ?_).trans (h.far b hb hn)
    rintro rfl
    rcases h.lo _ hD with h1 | h1
    · exact hn h1
    · have h2 : (markO b).1 = b := rfl
      omega
end
/-- A call's end where marks stand. -/
theorem leavesSM {F : Fence} {n : Nat} {P : Program} {fn : Func} {tmps : Array Value} {Rp : Ending → World → Prop} {R R0 : List Nat} {base w : World} {L : Objs} {W : World} {Ds : List Nat} (OC : Hid (Clo R base R0 w Ds)) (OW : Hid (OwnS R base L W)) (vs : List (RV P)) (he : (resE P L tmps fn.results.toList vs).map Eqn.lhs = (resE P L tmps fn.results.toList vs).map Eqn.rhs)
    (h : ∀ W', OwnS R0 w L W' → Rp (.returned (outV vs)) W') : LeavesInM F n P fn tmps Rp (Ds.map markD) .returning W := by
  have key : ∀ (Ds : List Nat) (W : World), OwnS R0 w (L ++ Ds.map markO) W → LeavesInM F n P fn tmps Rp (Ds.map markD) .returning W := by
    intro Ds
    induction Ds with
    | nil =>
      intro W hO
      have hO' : OwnS R0 w L W := by simpa using hO
      exact ⟨_, resS hO' vs he, h _ hO'⟩
    | cons D Ds ih =>
      intro W hO
      have hg : W.heap[D]? = some (.deferred (some [])) := hO.obj (markO D) (by simp)
      exact ⟨by simp, .inl ⟨D, _, rfl, run_takeDeferred hg, ih _ (hO.unmark _)⟩⟩
  exact key Ds W (OC.out L W OW.out)

/-- What a round leaves behind. -/
def NextS (W1 : World) (Ls : Objs) (Rel : Objs → Prop) (W' : World) : Prop :=
  ∃ Ls', OwnS (Ls.map (·.1)) W1 Ls' W' ∧ Rel Ls' ∧ ∀ y ∈ Ls', y.2.isCells = true ∨ ∃ x ∈ Ls, x.1 = y.1 ∧ x.2.isCells = false
theorem NextS.mk {W1 W' : World} {Ls L L' : Objs} {Rel : Objs → Prop} (OW : Hid (OwnS (Ls.map (·.1)) W1 L W')) (ps : List Nat) (he : (nodupB ps, ps.map (fun p => L[p]?), L'.all (fun y => y.2.isCells)) = (true, L'.map some, true)) (hr : Rel L') : NextS W1 Ls Rel W' :=
  ⟨L', OW.out.pick ps L' (by rw [show nodupB ps = true from congrArg (·.1) he, show ps.map (fun p => L[p]?) = L'.map some from congrArg (·.2.1) he]), hr, fun y hy => .inl (List.all_eq_true.1 (congrArg (·.2.2) he) y hy)⟩
def endS (W1 : World) (Ls : Objs) (Rel : Objs → Prop) (Rx : Code → Objs → Prop) : Exit → Act → World → Prop
  | .normal, _, W' => NextS W1 Ls Rel W'
  | .ret, _, W' => NextS W1 Ls (Rx .ret) W'
  | .exit id, _, W' => NextS W1 Ls (Rx (.exit id)) W'
  | .goto t, _, W' => NextS W1 Ls (Rx (.goto t)) W'
  | .panic _, _, _ => False
  | .outgrown, _, _ => False
/-- The caller's blocks: those that no round touches, and those of the list. -/
def setS (U : Nat → Prop) (Ls : Objs) (b : Nat) : Prop := U b ∨ ∃ x ∈ Ls, x.1 = b
def invS (U : Nat → Prop) (m : Nat) (R : List Nat) (base : World) (Rel : Nat → Objs → Prop) (i : Nat) (O : Nat → Prop) (W : World) : Prop :=
  ∃ Ls, Rel i Ls ∧ O = setS U Ls ∧ OwnS R base Ls W ∧ m ≤ W.heap.size ∧ ∀ x ∈ Ls, ¬ U x.1
section
variable {U : Nat → Prop} {m : Nat} {R : List Nat} {base : World} {Rel : Nat → Objs → Prop}
theorem invS.stay (hU : ∀ b, b < base.heap.size → b ∉ R → U b) : StayO (invS U m R base Rel) := by
  rintro i O W W' ⟨Ls, h1, rfl, h3, h4, h5⟩ t
  exact ⟨Ls, h1, rfl, h3.turn t (fun x hx => .inr ⟨x, hx, rfl⟩) (fun b hb hn => .inl (hU b hb hn)), Nat.le_trans h4 t.size, h5⟩
theorem NextS.grow {K : Nat → Prop} {i : Nat} {Ls : Objs} {W1 W' : World} (h : NextS W1 Ls (Rel i) W') (hO : OwnS R base Ls W1) (hm : m ≤ W1.heap.size) (hU : ∀ b, U b → b < m) (hn : ∀ x ∈ Ls, ¬ U x.1)
    (hK : ∀ L', Rel i L' → OwnS (Ls.map (·.1)) W1 L' W' → ∀ b, K b → b < W1.heap.size → W'.heap[b]? = W1.heap[b]?) : ∃ O', Grow K (setS U Ls) O' W1 W' ∧ invS U m R base Rel i O' W' := by
  obtain ⟨Ls', h1, h2, h3⟩ := h
  have hb : ∀ b, U b → b ∉ Ls.map (·.1) := fun b hb hx => by
    obtain ⟨y, hy, e⟩ := List.mem_map.1 hx
    exact hn y hy (by rw [e]; exact hb)
  refine ⟨setS U Ls', ⟨h1.size, ?_, ?_, ?_, ?_⟩, Ls', h2, rfl, hO.join h1, Nat.le_trans hm h1.size, fun x hx hu => ?_⟩
  · rintro b hb (h | ⟨y, hy, rfl⟩)
    · exact .inl h
    · rcases h1.lo y hy with h4 | h4
      · obtain ⟨x, hx, e⟩ := List.mem_map.1 h4
        exact .inr ⟨x, hx, e⟩
      · omega
  · rintro b (h | ⟨y, hy, rfl⟩)
    · have := hU b h; have := h1.size; omega
    · exact h1.lt hy
  · rintro b o (h | ⟨y, hy, rfl⟩) ho hc
    · exact ⟨o, (h1.far b (by have := hU b h; omega) (hb b h)).symm.trans ho, hc⟩
    · have h9 := (h1.obj y hy).symm.trans ho
      cases h9
      rcases h3 y hy with h | ⟨x, hx, e1, e2⟩
      · rw [h] at hc; cases hc
      · exact ⟨x.2, by rw [← e1]; exact hO.obj x hx, e2⟩
  · intro b hlt hk
    rcases hk with hk | hk
    · refine h1.far b hlt fun hx => ?_
      obtain ⟨y, hy, e⟩ := List.mem_map.1 hx
      exact hk (.inr ⟨y, hy, e⟩)
    · exact hK Ls' h2 h1 b hk hlt
  · rcases h1.lo x hx with h4 | h4
    · exact hb x.1 hu h4
    · have := hU _ hu; omega
end
/-- The contract of an iterator that reads the objects KO, and writes none that it has not made. -/
def IterS {α : Type} (n : Nat) (P : Program) (gf : Nat) (lb : Array Value) (encs : α → Array Value) (xs : List α) (KO : Objs) : Prop :=
  Iter3 Fence.wide n P gf lb encs xs (fun _ => False) (fun b => ∃ x ∈ KO, x.1 = b) (Has KO)
/-- An iterator at work: K is what it reads, L what it has made. -/
structure ItS (J : Nat → (Nat → Prop) → World → Prop) (K : Objs) (W0 : World) (L : Objs) (j : Nat) (wr : World) : Prop where
  ex : ∃ O, J j O wr ∧ (∀ x ∈ L, ¬ O x.1) ∧ ∀ b, O b → b < wr.heap.size
  sz : W0.heap.size ≤ wr.heap.size
  has : Has (K ++ L) wr
section
variable {J : Nat → (Nat → Prop) → World → Prop} {K : Objs} {W0 wr W' : World} {L L' : Objs} {j : Nat}
theorem ItS.step (hJ : StayO J) (h : ItS J K W0 L j wr) (hO : OwnS ((K ++ L).map (·.1)) wr (K ++ L') W') : ItS J K W0 L' j W' := by
  obtain ⟨O, h1, h2, h3⟩ := h.ex
  have t : Turn (fun b => ¬ O b) wr W' := ⟨hO.os, hO.tape, hO.output, hO.size, fun b hb hn => by
    have hb' : O b := Classical.not_not.1 hn
    by_cases hx : b ∈ (K ++ L).map (·.1)
    · obtain ⟨y, hy, e⟩ := List.mem_map.1 hx
      rcases List.mem_append.1 hy with hy | hy
      · rw [← e]
        exact (hO.obj y (List.mem_append_left _ hy)).trans (h.has.obj y (List.mem_append_left _ hy)).symm
      · exact absurd hb' (by rw [← e]; exact h2 y hy)
    · exact hO.far b hb hx⟩
  refine ⟨⟨O, hJ j O wr W' h1 t, fun x hx hox => ?_, fun b hb => Nat.lt_of_lt_of_le (h3 b hb) hO.size⟩, Nat.le_trans h.sz hO.size, hO.has⟩
  rcases hO.lo x (List.mem_append_right _ hx) with h4 | h4
  · obtain ⟨y, hy, e⟩ := List.mem_map.1 h4
    rcases List.mem_append.1 hy with hy | hy
    · exact (List.pairwise_append.1 hO.nd).2.2 y hy x hx e
    · exact h2 y hy (by rw [e]; exact hox)
  · have := h3 _ hox; omega
end
theorem iterS_of {α : Type} {n : Nat} {P : Program} {gf : Nat} {lb : Array Value} {encs : α → Array Value} {xs : List α} {KO : Objs}
    (h : ∀ (l : Nat) (J Jx : Nat → (Nat → Prop) → World → Prop) (W : World), StayO J →
      Hid (∀ (L : Objs) (j : Nat) (x : α) (wr : World), xs[j]? = some x → ItS J KO W L j wr → YieldAt Fence.wide (n - 1) P l (encs x) wr fun e W' => (e = .returned (.bool true) ∧ ItS J KO W L (j + 1) W') ∨ (e = .returned (.bool false) ∧ ∃ O', Jx (j + 1) O' W')) →
      Hid (ItS J KO W [] 0 W) → CallsIn Fence.wide n P gf (#[.func (.yield l) #[] #[]] ++ lb) W fun e W' => (∃ v, e = .returned v) ∧ ((∃ L, ItS J KO W L xs.length W') ∨ ∃ i, i < xs.length ∧ ∃ O', Jx (i + 1) O' W')) :
    IterS n P gf lb encs xs KO := by
  intro l J Jx W O hSt hJ hJx hS hO hY h0
  refine (h l J Jx W hJ (Lib.hid ?_) (Lib.hid ⟨⟨O, h0, fun _ h => by simp at h, hO⟩, Nat.le_refl _, by simpa using hSt⟩)).mono ?_
  · intro L j x wr hx hi
    obtain ⟨O1, h1, h2, h3⟩ := hi.ex
    refine (hY j x O1 wr hx h1 hi.sz).mono ?_
    rintro e W' ⟨O', hg, h4 | h4⟩
    · refine .inl ⟨h4.1, ⟨O', h4.2, fun x hx hox => ?_, hg.new⟩, Nat.le_trans hi.sz hg.size, ⟨fun x hx => ?_, hi.has.nd⟩⟩
      · have hlt : x.1 < wr.heap.size := (Array.getElem?_eq_some_iff.1 (hi.has.obj x (List.mem_append_right _ hx))).1
        exact h2 x hx (hg.old _ hlt hox)
      · have hlt : x.1 < wr.heap.size := (Array.getElem?_eq_some_iff.1 (hi.has.obj x hx)).1
        rcases List.mem_append.1 hx with hx' | hx'
        · exact (hg.keep _ hlt (.inr ⟨x, hx', rfl⟩)).trans (hi.has.obj x hx)
        · exact (hg.keep _ hlt (.inl (h2 x hx'))).trans (hi.has.obj x hx)
    · exact .inr ⟨h4.1, O', h4.2⟩
  · rintro e W' ⟨hv, h4 | h4⟩
    · refine ⟨hv, .inl ?_⟩
      obtain ⟨L, hL⟩ := h4
      obtain ⟨O1, h5, _⟩ := hL.ex
      exact ⟨O1, h5⟩
    · exact ⟨hv, .inr h4⟩
end Go.Proofs.Ytkeheickaogpiaa
