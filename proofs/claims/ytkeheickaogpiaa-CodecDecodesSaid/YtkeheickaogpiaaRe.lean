/- A region by one evaluation: what its operations compute, read, write and make, in every order that it may take. No program in sight. -/
import Derived.Test.YtkeheickaogpiaaRsQ
namespace Go.Proofs.Ytkeheickaogpiaa
open Go Go.RowKit Go.Shelf

/-- What an operation makes that is not known ahead. -/
structure Env where
  blk : Nat → Nat
  rest : Nat → List Value
  num : Nat → Nat
def Env.zero : Env := ⟨fun _ => 0, fun _ => [], fun _ => 0⟩
abbrev Envs := Nat → Env
abbrev Mem := Nat → Option (Nat × Obj)
abbrev Wr := List (Nat × (Nat × Obj))

/-- The objects that f tells, at places below m, in the blocks R or in new ones; beside them the world base is as it was. -/
structure OwnF (R : List Nat) (base : World) (m : Nat) (f : Mem) (W : World) : Prop where
  obj : ∀ p, p < m → ∀ x, f p = some x → W.heap[x.1]? = some x.2
  nd : ∀ p q, p < m → q < m → p ≠ q → ∀ x y, f p = some x → f q = some y → x.1 ≠ y.1
  lo : ∀ p, p < m → ∀ x, f p = some x → x.1 ∈ R ∨ base.heap.size ≤ x.1
  os : W.os = base.os
  tape : W.tape = base.tape
  output : W.output = base.output
  size : base.heap.size ≤ W.heap.size
  far : ∀ b, b < base.heap.size → b ∉ R → W.heap[b]? = base.heap[b]?
/-- The same of a list. -/
structure OwnS (R : List Nat) (base : World) (L : Objs) (W : World) : Prop where
  obj : ∀ x ∈ L, W.heap[x.1]? = some x.2
  nd : L.Pairwise (fun x y => x.1 ≠ y.1)
  lo : ∀ x ∈ L, x.1 ∈ R ∨ base.heap.size ≤ x.1
  os : W.os = base.os
  tape : W.tape = base.tape
  output : W.output = base.output
  size : base.heap.size ≤ W.heap.size
  far : ∀ b, b < base.heap.size → b ∉ R → W.heap[b]? = base.heap[b]?
theorem Own.s {B : Nat} {base W : World} {L : Objs} (h : Own B base L W) (hB : base.heap.size ≤ B) : OwnS [] base L W := ⟨h.obj, h.nd, fun x hx => .inr (Nat.le_trans hB (h.lo x hx)), h.os, h.tape, h.output, h.size, fun b hb _ => h.far b hb fun x hx e => by have := h.lo x hx; omega⟩
theorem OwnS.own {B : Nat} {base W : World} {L : Objs} (h : OwnS [] base L W) (hB : B ≤ base.heap.size) : Own B base L W := ⟨h.obj, h.nd, fun x hx => (h.lo x hx).elim (fun h => by simp at h) (fun h => Nat.le_trans hB h), h.os, h.tape, h.output, h.size, fun b hb _ => h.far b hb (by simp)⟩
/-- O: blocks that may be other ones now; N: what lies in these, or in new ones; all else as it was. -/
structure Step (O : List Nat) (N : Objs) (W W' : World) : Prop where
  os : W'.os = W.os
  tape : W'.tape = W.tape
  output : W'.output = W.output
  size : W.heap.size ≤ W'.heap.size
  obj : ∀ x ∈ N, W'.heap[x.1]? = some x.2
  new : ∀ x ∈ N, x.1 ∈ O ∨ W.heap.size ≤ x.1
  nd : N.Pairwise (fun x y => x.1 ≠ y.1)
  far : ∀ b, b < W.heap.size → b ∉ O → W'.heap[b]? = W.heap[b]?
/-- The objects lie there, apart. -/
structure Has (R : Objs) (W : World) : Prop where
  obj : ∀ x ∈ R, W.heap[x.1]? = some x.2
  nd : R.Pairwise (fun x y => x.1 ≠ y.1)

def look : Wr → Nat → Option (Nat × Obj)
  | [], _ => none
  | (q, x) :: r, p => if q = p then some x else look r p
theorem look_mem : ∀ {w : Wr} {p : Nat} {x : Nat × Obj}, look w p = some x → (p, x) ∈ w
  | (q, y) :: r, p, x, h => by
    unfold look at h
    split at h
    · rename_i e
      subst e
      cases h
      exact List.mem_cons_self ..
    · exact List.mem_cons_of_mem _ (look_mem h)
theorem look_none : ∀ {w : Wr} {p : Nat}, look w p = none → ∀ x, (p, x) ∉ w
  | [], _, _, _, h => by simp at h
  | (q, y) :: r, p, h, x, hm => by
    unfold look at h
    split at h
    · cases h
    · rename_i e
      rcases List.mem_cons.1 hm with e2 | hm
      · cases e2; exact e rfl
      · exact look_none h x hm
def updF (f : Mem) (w : Wr) : Mem := fun p => match look w p with | some x => some x | none => f p

section
variable {m : Nat} {R : List Nat} {base W W' : World} {f : Mem}
theorem OwnF.lt (h : OwnF R base m f W) {p : Nat} (hp : p < m) {x : Nat × Obj} (hx : f p = some x) : x.1 < W.heap.size := (Array.getElem?_eq_some_iff.1 (h.obj p hp x hx)).1
theorem pairwise_ne {v : Wr} (h : (v.map (·.2)).Pairwise (fun x y => x.1 ≠ y.1)) {p q : Nat} {x y : Nat × Obj} (hp : (p, x) ∈ v) (hq : (q, y) ∈ v) (hne : p ≠ q) : x.1 ≠ y.1 := by
  rw [List.pairwise_map] at h
  obtain ⟨i, hi, ei⟩ := List.getElem_of_mem hp
  obtain ⟨j, hj, ej⟩ := List.getElem_of_mem hq
  have hij : i ≠ j := fun e => by
    subst e
    rw [ei] at ej
    cases ej
    exact hne rfl
  have hp := List.pairwise_iff_getElem.1 h
  rcases Nat.lt_or_gt_of_ne hij with l | l
  · have := hp i j hi hj l
    rwa [ei, ej] at this
  · have := hp j i hj hi l
    rw [ei, ej] at this
    exact Ne.symm this
theorem OwnF.step (h : OwnF R base m f W) {O : List Nat} {v : Wr} (hs : Step O (v.map (·.2)) W W') (hO : ∀ b ∈ O, ∃ p o, p < m ∧ (∃ x, (p, x) ∈ v) ∧ f p = some (b, o)) : OwnF R base m (updF f v) W' := by
  have cas : ∀ p x, updF f v p = some x → ((p, x) ∈ v) ∨ ((∀ y, (p, y) ∉ v) ∧ f p = some x) := by
    intro p x hx
    unfold updF at hx
    split at hx
    · rename_i y hy
      cases hx
      exact .inl (look_mem hy)
    · rename_i hy
      exact .inr ⟨fun y hm => look_none hy y hm, hx⟩
  have neO : ∀ {q : Nat} {y : Nat × Obj}, q < m → (∀ z, (q, z) ∉ v) → f q = some y → y.1 ∉ O := by
    intro q y hq hn hy hm
    obtain ⟨p, o, hp, ⟨x, hx⟩, hfp⟩ := hO _ hm
    have hpq : p ≠ q := fun e => by subst e; exact hn _ hx
    exact h.nd p q hp hq hpq (y.1, o) y hfp hy rfl
  have inN : ∀ {p : Nat} {x : Nat × Obj}, (p, x) ∈ v → x ∈ v.map (·.2) := fun {p x} hm => List.mem_map.2 ⟨(p, x), hm, rfl⟩
  refine ⟨?_, ?_, ?_, hs.os.trans h.os, hs.tape.trans h.tape, hs.output.trans h.output, Nat.le_trans h.size hs.size, ?_⟩
  · intro p hp x hx
    rcases cas p x hx with h1 | ⟨h1, h2⟩
    · exact hs.obj x (inN h1)
    · exact (hs.far _ (h.lt hp h2) (neO hp h1 h2)).trans (h.obj p hp x h2)
  · have one : ∀ p q, p < m → q < m → ∀ x y, (p, x) ∈ v → (∀ z, (q, z) ∉ v) → f q = some y → x.1 ≠ y.1 := by
      intro p q hp hq x y hx hn hy e
      rcases hs.new x (inN hx) with h1 | h1
      · rw [e] at h1
        exact neO hq hn hy h1
      · have := h.lt hq hy
        omega
    intro p q hp hq hne x y hx hy
    rcases cas p x hx with h1 | ⟨h1, h2⟩
    · rcases cas q y hy with k1 | ⟨k1, k2⟩
      · exact pairwise_ne hs.nd h1 k1 hne
      · exact one p q hp hq x y h1 k1 k2
    · rcases cas q y hy with k1 | ⟨k1, k2⟩
      · exact Ne.symm (one q p hq hp y x k1 h1 h2)
      · exact h.nd p q hp hq hne _ _ h2 k2
  · intro p hp x hx
    rcases cas p x hx with h1 | ⟨h1, h2⟩
    · rcases hs.new x (inN h1) with h3 | h3
      · obtain ⟨q, o, hq, _, hfq⟩ := hO _ h3
        exact h.lo q hq (x.1, o) hfq
      · exact .inr (Nat.le_trans h.size h3)
    · exact h.lo p hp x h2
  · intro b hb hn
    refine (hs.far b (Nat.lt_of_lt_of_le hb h.size) fun hm => ?_).trans (h.far b hb hn)
    obtain ⟨q, o, hq, _, hfq⟩ := hO _ hm
    rcases h.lo q hq (b, o) hfq with h1 | h1
    · exact hn h1
    · exact absurd h1 (Nat.not_le.2 hb)
end

/-- What lies at the place p, of the operations that S tells, the first n. -/
def contAt (M0 : Objs) (wr : Nat → Wr) (S : Nat → Bool) (p : Nat) : Nat → Option (Nat × Obj)
  | 0 => M0[p]?
  | j + 1 => match S j, look (wr j) p with
    | true, some x => some x
    | _, _ => contAt M0 wr S p j
section
variable {M0 : Objs} {wr wr' : Nat → Wr} {S S' : Nat → Bool} {p : Nat}
theorem contAt_skip {j : Nat} (h : S j = false ∨ look (wr j) p = none) : contAt M0 wr S p (j + 1) = contAt M0 wr S p j := by
  rw [contAt.eq_2]
  rcases h with h | h
  · rw [h]
  · rw [h]; cases S j <;> rfl
theorem contAt_congr {N : Nat} (h : ∀ j, j < N → S j = S' j ∧ (S j = true → look (wr j) p = look (wr' j) p)) : contAt M0 wr S p N = contAt M0 wr' S' p N := by
  induction N with
  | zero => rfl
  | succ j ih =>
    have ih := ih fun i hi => h i (by omega)
    obtain ⟨h1, h2⟩ := h j (by omega)
    rw [contAt.eq_2, contAt.eq_2, ← h1, ih]
    cases hS : S j with
    | false => rfl
    | true => rw [h2 hS]
theorem contAt_read {k N : Nat} (hk : k ≤ N) (hlo : ∀ j, j < k → (look (wr j) p).isSome = true → S j = true) (hhi : ∀ j, k ≤ j → j < N → (look (wr j) p).isSome = true → S j = false) : contAt M0 wr S p N = contAt M0 wr (fun _ => true) p k := by
  have h1 : ∀ d, k + d ≤ N → contAt M0 wr S p (k + d) = contAt M0 wr S p k := by
    intro d
    induction d with
    | zero => intro _; rfl
    | succ d ih =>
      intro hd
      rw [show k + (d + 1) = (k + d) + 1 from rfl, contAt_skip, ih (by omega)]
      cases hl : look (wr (k + d)) p with
      | none => exact .inr rfl
      | some x => exact .inl (hhi _ (by omega) (by omega) (by rw [hl]; rfl))
  have h2 : ∀ i, i ≤ k → contAt M0 wr S p i = contAt M0 wr (fun _ => true) p i := by
    intro i
    induction i with
    | zero => intro _; rfl
    | succ i ih =>
      intro hi
      rw [contAt.eq_2, contAt.eq_2, ih (by omega)]
      cases hl : look (wr i) p with
      | none => cases S i <;> rfl
      | some x => rw [hlo i (by omega) (by rw [hl]; rfl)]
  have := h1 (N - k) (by omega)
  rw [show k + (N - k) = N by omega] at this
  rw [this, h2 k (Nat.le_refl _)]
theorem contAt_write {k N : Nat} (hk : k < N) (hS : S k = false) (hhi : (look (wr k) p).isSome = true → ∀ j, k < j → j < N → (look (wr j) p).isSome = true → S j = false) :
    contAt M0 wr (fun j => if j = k then true else S j) p N = match look (wr k) p with | some x => some x | none => contAt M0 wr S p N := by
  have h0 : ∀ i, i ≤ k → contAt M0 wr (fun j => if j = k then true else S j) p i = contAt M0 wr S p i := fun i hi => contAt_congr fun j hj => ⟨by rw [if_neg (by omega)], fun _ => rfl⟩
  have h1 : ∀ d, k + 1 + d ≤ N → contAt M0 wr (fun j => if j = k then true else S j) p (k + 1 + d) = match look (wr k) p with | some x => some x | none => contAt M0 wr S p (k + 1 + d) := by
    intro d
    induction d with
    | zero =>
      intro _
      rw [Nat.add_zero, contAt.eq_2, if_pos rfl, h0 k (Nat.le_refl _), contAt_skip (S := S) (.inl hS)]
      cases look (wr k) p <;> rfl
    | succ d ih =>
      intro hd
      rw [show k + 1 + (d + 1) = (k + 1 + d) + 1 from rfl, contAt.eq_2, contAt.eq_2, ih (by omega), if_neg (by omega)]
      cases hl : look (wr k) p with
      | none => cases S (k + 1 + d) <;> cases look (wr (k + 1 + d)) p <;> rfl
      | some x =>
        cases hS2 : S (k + 1 + d) with
        | false => rfl
        | true =>
          cases hl2 : look (wr (k + 1 + d)) p with
          | none => rfl
          | some y =>
            have := hhi (by rw [hl]; rfl) (k + 1 + d) (by omega) (by omega) (by rw [hl2]; rfl)
            rw [hS2] at this
            cases this
  have := h1 (N - (k + 1)) (by omega)
  rwa [show k + 1 + (N - (k + 1)) = N by omega] at this
end
end Go.Proofs.Ytkeheickaogpiaa
