/- Several texts in one: Re ReR ReA ReH. -/
import Derived.Test.YtkeheickaogpiaaRsQ
namespace Go.Proofs.Ytkeheickaogpiaa
open Go Go.RowKit Go.Shelf

/-- What an operation makes that is not known ahead. -/
structure Env where
  blk : Nat → Nat
  rest : Nat → List Value
  num : Nat → Nat
def Env.zero : Env := ⟨fun _ => 0, fun _ => [], fun _ => 0⟩
abbrev Envs := Nat → Env
abbrev Mem := Nat → Option (Nat × Obj)
abbrev Wr := List (Nat × (Nat × Obj))

/-- The objects that f tells, at places below m, in the blocks R or in new ones; beside them the world base is as it was. -/
structure OwnF (R : List Nat) (base : World) (m : Nat) (f : Mem) (W : World) : Prop where
  obj : ∀ p, p < m → ∀ x, f p = some x → W.heap[x.1]? = some x.2
  nd : ∀ p q, p < m → q < m → p ≠ q → ∀ x y, f p = some x → f q = some y → x.1 ≠ y.1
  lo : ∀ p, p < m → ∀ x, f p = some x → x.1 ∈ R ∨ base.heap.size ≤ x.1
  os : W.os = base.os
  tape : W.tape = base.tape
  output : W.output = base.output
  size : base.heap.size ≤ W.heap.size
  far : ∀ b, b < base.heap.size → b ∉ R → W.heap[b]? = base.heap[b]?
/-- The same of a list. -/
structure OwnS (R : List Nat) (base : World) (L : Objs) (W : World) : Prop where
  obj : ∀ x ∈ L, W.heap[x.1]? = some x.2
  nd : L.Pairwise (fun x y => x.1 ≠ y.1)
  lo : ∀ x ∈ L, x.1 ∈ R ∨ base.heap.size ≤ x.1
  os : W.os = base.os
  tape : W.tape = base.tape
  output : W.output = base.output
  size : base.heap.size ≤ W.heap.size
  far : ∀ b, b < base.heap.size → b ∉ R → W.heap[b]? = base.heap[b]?
theorem Own.s {B : Nat} {base W : World} {L : Objs} (h : Own B base L W) (hB : base.heap.size ≤ B) : OwnS [] base L W := ⟨h.obj, h.nd, fun x hx => .inr (Nat.le_trans hB (h.lo x hx)), h.os, h.tape, h.output, h.size, fun b hb _ => h.far b hb fun x hx e => by have := h.lo x hx; omega⟩
theorem OwnS.own {B : Nat} {base W : World} {L : Objs} (h : OwnS [] base L W) (hB : B ≤ base.heap.size) : Own B base L W := ⟨h.obj, h.nd, fun x hx => (h.lo x hx).elim (fun h => by simp at h) (fun h => Nat.le_trans hB h), h.os, h.tape, h.output, h.size, fun b hb _ => h.far b hb (by simp)⟩
/-- O: blocks that may be other ones now; N: what lies in these, or in new ones; all else as it was. -/
structure Step (O : List Nat) (N : Objs) (W W' : World) : Prop where
  os : W'.os = W.os
  tape : W'.tape = W.tape
  output : W'.output = W.output
  size : W.heap.size ≤ W'.heap.size
  obj : ∀ x ∈ N, W'.heap[x.1]? = some x.2
  new : ∀ x ∈ N, x.1 ∈ O ∨ W.heap.size ≤ x.1
  nd : N.Pairwise (fun x y => x.1 ≠ y.1)
  far : ∀ b, b < W.heap.size → b ∉ O → W'.heap[b]? = W.heap[b]?
/-- The objects lie there, apart. -/
structure Has (R : Objs) (W : World) : Prop where
  obj : ∀ x ∈ R, W.heap[x.1]? = some x.2
  nd : R.Pairwise (fun x y => x.1 ≠ y.1)

def look : Wr → Nat → Option (Nat × Obj)
  | [], _ => none
  | (q, x) :: r, p => if q = p then some x else look r p
theorem look_mem : ∀ {w : Wr} {p : Nat} {x : Nat × Obj}, look w p = some x → (p, x) ∈ w
  | (q, y) :: r, p, x, h => by
    unfold look at h
    split at h
    · rename_i e
      subst e
      cases h
      exact List.mem_cons_self ..
    · exact List.mem_cons_of_mem _ (look_mem h)
theorem look_none : ∀ {w : Wr} {p : Nat}, look w p = none → ∀ x, (p, x) ∉ w
  | [], _, _, _, h => by simp at h
  | (q, y) :: r, p, h, x, hm => by
    unfold look at h
    split at h
    · cases h
    · rename_i e
      rcases List.mem_cons.1 hm with e2 | hm
      · cases e2; exact e rfl
      · exact look_none h x hm
def updF (f : Mem) (w : Wr) : Mem := fun p => match look w p with | some x => some x | none => f p

section
variable {m : Nat} {R : List Nat} {base W W' : World} {f : Mem}
theorem OwnF.lt (h : OwnF R base m f W) {p : Nat} (hp : p < m) {x : Nat × Obj} (hx : f p = some x) : x.1 < W.heap.size := (Array.getElem?_eq_some_iff.1 (h.obj p hp x hx)).1
theorem pairwise_ne {v : Wr} (h : (v.map (·.2)).Pairwise (fun x y => x.1 ≠ y.1)) {p q : Nat} {x y : Nat × Obj} (hp : (p, x) ∈ v) (hq : (q, y) ∈ v) (hne : p ≠ q) : x.1 ≠ y.1 := by
  rw [List.pairwise_map] at h
  obtain ⟨i, hi, ei⟩ := List.getElem_of_mem hp
  obtain ⟨j, hj, ej⟩ := List.getElem_of_mem hq
  have hij : i ≠ j := fun e => by
    subst e
    rw [ei] at ej
    cases ej
    exact hne rfl
  have hp := List.pairwise_iff_getElem.1 h
  rcases Nat.lt_or_gt_of_ne hij with l | l
  · have := hp i j hi hj l
    rwa [ei, ej] at this
  · have := hp j i hj hi l
    rw [ei, ej] at this
    exact Ne.symm this
theorem OwnF.step (h : OwnF R base m f W) {O : List Nat} {v : Wr} (hs : Step O (v.map (·.2)) W W') (hO : ∀ b ∈ O, ∃ p o, p < m ∧ (∃ x, (p, x) ∈ v) ∧ f p = some (b, o)) : OwnF R base m (updF f v) W' := by
  have cas : ∀ p x, updF f v p = some x → ((p, x) ∈ v) ∨ ((∀ y, (p, y) ∉ v) ∧ f p = some x) := by
    intro p x hx
    unfold updF at hx
    split at hx
    · rename_i y hy
      cases hx
      exact .inl (look_mem hy)
    · rename_i hy
      exact .inr ⟨fun y hm => look_none hy y hm, hx⟩
  have neO : ∀ {q : Nat} {y : Nat × Obj}, q < m → (∀ z, (q, z) ∉ v) → f q = some y → y.1 ∉ O := by
    intro q y hq hn hy hm
    obtain ⟨p, o, hp, ⟨x, hx⟩, hfp⟩ := hO _ hm
    have hpq : p ≠ q := fun e => by subst e; exact hn _ hx
    exact h.nd p q hp hq hpq (y.1, o) y hfp hy rfl
  have inN : ∀ {p : Nat} {x : Nat × Obj}, (p, x) ∈ v → x ∈ v.map (·.2) := fun {p x} hm => List.mem_map.2 ⟨(p, x), hm, rfl⟩
  refine ⟨?_, ?_, ?_, hs.os.trans h.os, hs.tape.trans h.tape, hs.output.trans h.output, Nat.le_trans h.size hs.size, ?_⟩
  · intro p hp x hx
    rcases cas p x hx with h1 | ⟨h1, h2⟩
    · exact hs.obj x (inN h1)
    · exact (hs.far _ (h.lt hp h2) (neO hp h1 h2)).trans (h.obj p hp x h2)
  · have one : ∀ p q, p < m → q < m → ∀ x y, (p, x) ∈ v → (∀ z, (q, z) ∉ v) → f q = some y → x.1 ≠ y.1 := by
      intro p q hp hq x y hx hn hy e
      rcases hs.new x (inN hx) with h1 | h1
      · rw [e] at h1
        exact neO hq hn hy h1
      · have := h.lt hq hy
        omega
    intro p q hp hq hne x y hx hy
    rcases cas p x hx with h1 | ⟨h1, h2⟩
    · rcases cas q y hy with k1 | ⟨k1, k2⟩
      · exact pairwise_ne hs.nd h1 k1 hne
      · exact one p q hp hq x y h1 k1 k2
    · rcases cas q y hy with k1 | ⟨k1, k2⟩
      · exact Ne.symm (one q p hq hp y x k1 h1 h2)
      · exact h.nd p q hp hq hne _ _ h2 k2
  · intro p hp x hx
    rcases cas p x hx with h1 | ⟨h1, h2⟩
    · rcases hs.new x (inN h1) with h3 | h3
      · obtain ⟨q, o, hq, _, hfq⟩ := hO _ h3
        exact h.lo q hq (x.1, o) hfq
      · exact .inr (Nat.le_trans h.size h3)
    · exact h.lo p hp x h2
  · intro b hb hn
    refine (hs.far b (Nat.lt_of_lt_of_le hb h.size) fun hm => ?_).trans (h.far b hb hn)
    obtain ⟨q, o, hq, _, hfq⟩ := hO _ hm
    rcases h.lo q hq (b, o) hfq with h1 | h1
    · exact hn h1
    · exact absurd h1 (Nat.not_le.2 hb)
end

/-- What lies at the place p, of the operations that S tells, the first n. -/
def contAt (M0 : Objs) (wr : Nat → Wr) (S : Nat → Bool) (p : Nat) : Nat → Option (Nat × Obj)
  | 0 => M0[p]?
  | j + 1 => match S j, look (wr j) p with
    | true, some x => some x
    | _, _ => contAt M0 wr S p j
section
variable {M0 : Objs} {wr wr' : Nat → Wr} {S S' : Nat → Bool} {p : Nat}
theorem contAt_skip {j : Nat} (h : S j = false ∨ look (wr j) p = none) : contAt M0 wr S p (j + 1) = contAt M0 wr S p j := by
  rw [contAt.eq_2]
  rcases h with h | h
  · rw [h]
  · rw [h]; cases S j <;> rfl
theorem contAt_congr {N : Nat} (h : ∀ j, j < N → S j = S' j ∧ (S j = true → look (wr j) p = look (wr' j) p)) : contAt M0 wr S p N = contAt M0 wr' S' p N := by
  induction N with
  | zero => rfl
  | succ j ih =>
    have ih := ih fun i hi => h i (by omega)
    obtain ⟨h1, h2⟩ := h j (by omega)
    rw [contAt.eq_2, contAt.eq_2, ← h1, ih]
    cases hS : S j with
    | false => rfl
    | true => rw [h2 hS]
theorem contAt_read {k N : Nat} (hk : k ≤ N) (hlo : ∀ j, j < k → (look (wr j) p).isSome = true → S j = true) (hhi : ∀ j, k ≤ j → j < N → (look (wr j) p).isSome = true → S j = false) : contAt M0 wr S p N = contAt M0 wr (fun _ => true) p k := by
  have h1 : ∀ d, k + d ≤ N → contAt M0 wr S p (k + d) = contAt M0 wr S p k := by
    intro d
    induction d with
    | zero => intro _; rfl
    | succ d ih =>
      intro hd
      rw [show k + (d + 1) = (k + d) + 1 from rfl, contAt_skip, ih (by omega)]
      cases hl : look (wr (k + d)) p with
      | none => exact .inr rfl
      | some x => exact .inl (hhi _ (by omega) (by omega) (by rw [hl]; rfl))
  have h2 : ∀ i, i ≤ k → contAt M0 wr S p i = contAt M0 wr (fun _ => true) p i := by
    intro i
    induction i with
    | zero => intro _; rfl
    | succ i ih =>
      intro hi
      rw [contAt.eq_2, contAt.eq_2, ih (by omega)]
      cases hl : look (wr i) p with
      | none => cases S i <;> rfl
      | some x => rw [hlo i (by omega) (by rw [hl]; rfl)]
  have := h1 (N - k) (by omega)
  rw [show k + (N - k) = N by omega] at this
  rw [this, h2 k (Nat.le_refl _)]
theorem contAt_write {k N : Nat} (hk : k < N) (hS : S k = false) (hhi : (look (wr k) p).isSome = true → ∀ j, k < j → j < N → (look (wr j) p).isSome = true → S j = false) :
    contAt M0 wr (fun j => if j = k then true else S j) p N = match look (wr k) p with | some x => some x | none => contAt M0 wr S p N := by
  have h0 : ∀ i, i ≤ k → contAt M0 wr (fun j => if j = k then true else S j) p i = contAt M0 wr S p i := fun i hi => contAt_congr fun j hj => ⟨by rw [if_neg (by omega)], fun _ => rfl⟩
  have h1 : ∀ d, k + 1 + d ≤ N → contAt M0 wr (fun j => if j = k then true else S j) p (k + 1 + d) = match look (wr k) p with | some x => some x | none => contAt M0 wr S p (k + 1 + d) := by
    intro d
    induction d with
    | zero =>
      intro _
      rw [Nat.add_zero, contAt.eq_2, if_pos rfl, h0 k (Nat.le_refl _), contAt_skip (S := S) (.inl hS)]
      cases look (wr k) p <;> rfl
    | succ d ih =>
      intro hd
      rw [show k + 1 + (d + 1) = (k + 1 + d) + 1 from rfl, contAt.eq_2, contAt.eq_2, ih (by omega), if_neg (by omega)]
      cases hl : look (wr k) p with
      | none => cases S (k + 1 + d) <;> cases look (wr (k + 1 + d)) p <;> rfl
      | some x =>
        cases hS2 : S (k + 1 + d) with
        | false => rfl
        | true =>
          cases hl2 : look (wr (k + 1 + d)) p with
          | none => rfl
          | some y =>
            have := hhi (by rw [hl]; rfl) (k + 1 + d) (by omega) (by omega) (by rw [hl2]; rfl)
            rw [hS2] at this
            cases this
  have := h1 (N - (k + 1)) (by omega)
  rwa [show k + 1 + (N - (k + 1)) = N by omega] at this
end
end Go.Proofs.Ytkeheickaogpiaa
namespace Go.Proofs.Ytkeheickaogpiaa
open Go Go.RowKit Go.Shelf

/-- What is told of a region: values, what is read, written and made, conditions, and what waits for what. -/
structure Told where
  val : Envs → Nat → Env → Value
  rd : Envs → Nat → Wr
  wt : Envs → Nat → Env → Wr
  ob : Envs → Nat → List Nat
  cds : Nat → List (Nat × Bool)
  D : Nat → List Nat
  L0 : Objs
  m : Nat
def Told.vs (t : Told) (η : Envs) (k : Nat) : Value := t.val η k (η k)
def Told.wr (t : Told) (η : Envs) (k : Nat) : Wr := t.wt η k (η k)
def Told.Hold (t : Told) (η : Envs) (k : Nat) : Prop := ∀ c ∈ t.cds k, t.vs η c.1 = .bool c.2
def Told.Is (t : Told) (η : Envs) (i : Nat) (x : Value) : Prop := (t.Hold η i ∧ x = t.vs η i) ∨ (¬ t.Hold η i ∧ x = undef)
def Told.at (t : Told) (η : Envs) (p k : Nat) : Option (Nat × Obj) := contAt t.L0 (t.wr η) (fun _ => true) p k
def upd (η : Envs) (k : Nat) (E : Env) : Envs := fun j => if j = k then E else η j
def mask (D : List Nat) (η : Envs) : Envs := fun j => if D.contains j then η j else Env.zero
theorem mask_upd {D : List Nat} {η : Envs} {k : Nat} {E : Env} (h : k ∉ D) : mask D (upd η k E) = mask D η := by
  funext j
  unfold mask upd
  by_cases hj : D.contains j = true
  · have hm : j ∈ D := by simpa using hj
    have hne : j ≠ k := fun e => by subst e; exact h hm
    rw [if_pos hj, if_pos hj, if_neg hne]
  · rw [if_neg hj, if_neg hj]

section
variable (F : Fence) (n : Nat) (P : Program) (L : List Oper) (Q : Exit → Act → World → Prop) (a : Act) (t : Told)
/-- One operation, whatever the others made. -/
structure Acts (η : Envs) (k : Nat) (o : Oper) : Prop where
  out : ∀ (xs : Nat → Value) (w' : World), (∀ i ∈ t.D k, t.Is η i (xs i)) → (∀ i, i < L.length → (i = k ∨ k ∈ t.D i) → xs i = firstX L a i) → Has ((t.rd η k).map (·.2)) w' → t.Hold η k →
    ∀ K : Value → World → Prop, (∀ E w'', Step (t.ob η k) ((t.wt η k E).map (·.2)) w' w'' → K (t.val η k E) w'') →
      o.wpIn F n P (putsH xs L 0 a) w' (fun a'' w'' => ∃ v, a'' = (putsH xs L 0 a).put o.dst v ∧ K v w'') Q
/-- The guard is the last of the conditions. -/
def guardOk (k : Nat) (o : Oper) (η : Envs) : Prop := match o.guard with
  | none => t.cds k = []
  | some (j, b) => t.cds k = t.cds j ++ [(j, b)] ∧ j ∈ t.D k ∧ (∃ E, t.vs η j = .bool E) ∧ (∃ d, (L.toArray[j]?).bind (·.dst) = some d ∧ whoPuts d L 0 = some j ∧ Nat.blt d a.tmps.size = true)
def free (η : Envs) (k p : Nat) : Prop := p < t.m ∧ ∀ j, j < L.length → j ≠ k → (look (t.wr η j) p).isSome = true → (j < k ∧ j ∈ t.D k) ∨ (k < j ∧ k ∈ t.D j)
/-- All that the walk of a region asks. -/
structure ReOk : Prop where
  acts : ∀ η k o, L[k]? = some o → Acts F n P L Q a t η k o
  guard : ∀ η k o, L[k]? = some o → guardOk L a t k o η
  cin : ∀ k, k < L.length → ∀ c ∈ t.cds k, c.1 ∈ t.D k
  still : ∀ η k, k < L.length → t.cds k ≠ [] → t.wr η k = []
  rdf : ∀ η k, k < L.length → ∀ x ∈ t.rd η k, free L t η k x.1 ∧ t.at η x.1 k = some x.2
  rdn : ∀ η k, k < L.length → ((t.rd η k).map (·.1)).Nodup
  wrf : ∀ η k, k < L.length → ∀ x ∈ t.wr η k, free L t η k x.1
  obf : ∀ η k, k < L.length → ∀ b ∈ t.ob η k, ∃ p o, (∃ x, (p, x) ∈ t.wr η k) ∧ t.at η p k = some (b, o)
  mval : ∀ η k, k < L.length → t.val (mask (t.D k) η) k = t.val η k
  mwt : ∀ η k, k < L.length → t.wt (mask (t.D k) η) k = t.wt η k
  mob : ∀ η k, k < L.length → t.ob (mask (t.D k) η) k = t.ob η k
end
section
variable {F : Fence} {n : Nat} {P : Program} {L : List Oper} {Q : Exit → Act → World → Prop} {a : Act} {t : Told}
theorem ReOk.val_upd (h : ReOk F n P L Q a t) {η : Envs} {i k : Nat} {E : Env} (hi : i < L.length) (hk : k ∉ t.D i) : t.val (upd η k E) i = t.val η i := by
  rw [← h.mval (upd η k E) i hi, mask_upd hk, h.mval η i hi]
theorem ReOk.wt_upd (h : ReOk F n P L Q a t) {η : Envs} {i k : Nat} {E : Env} (hi : i < L.length) (hk : k ∉ t.D i) : t.wt (upd η k E) i = t.wt η i := by
  rw [← h.mwt (upd η k E) i hi, mask_upd hk, h.mwt η i hi]
theorem ReOk.ob_upd (h : ReOk F n P L Q a t) {η : Envs} {i k : Nat} {E : Env} (hi : i < L.length) (hk : k ∉ t.D i) : t.ob (upd η k E) i = t.ob η i := by
  rw [← h.mob (upd η k E) i hi, mask_upd hk, h.mob η i hi]
theorem ReOk.vs_upd (h : ReOk F n P L Q a t) {η : Envs} {i k : Nat} {E : Env} (hi : i < L.length) (hk : k ∉ t.D i) (hne : i ≠ k) : t.vs (upd η k E) i = t.vs η i := by
  unfold Told.vs
  rw [h.val_upd hi hk, show upd η k E i = η i from if_neg hne]
theorem ReOk.wr_upd (h : ReOk F n P L Q a t) {η : Envs} {i k : Nat} {E : Env} (hi : i < L.length) (hk : k ∉ t.D i) (hne : i ≠ k) : t.wr (upd η k E) i = t.wr η i := by
  unfold Told.wr
  rw [h.wt_upd hi hk, show upd η k E i = η i from if_neg hne]

/-- What holds when the operations of S are done. -/
def InvR (L : List Oper) (a : Act) (t : Told) (R : List Nat) (base : World) (S : Nat → Bool) (xs : Nat → Value) (w : World) : Prop :=
  ∃ η : Envs, (∀ i, i < L.length → S i = true → t.Is η i (xs i)) ∧ (∀ i, i < L.length → S i = false → xs i = firstX L a i) ∧ OwnF R base t.m (fun p => contAt t.L0 (t.wr η) S p L.length) w

theorem re_step (h : ReOk F n P L Q a t) {R : List Nat} {base : World} {S : Nat → Bool} {xs : Nat → Value} {w' : World} {k : Nat} {o : Oper} (hk : k < L.length) (ho : L[k]? = some o)
    (hS : S k = false) (hD : ∀ j ∈ t.D k, j < L.length ∧ S j = true) (hcl : ∀ i, i < L.length → S i = true → ∀ j ∈ t.D i, j < L.length ∧ S j = true) (inv : InvR L a t R base S xs w')
    (K : Value → World → Prop) (hK : ∀ v w'', InvR L a t R base (fun j => if j = k then true else S j) (fun j => if j = k then v else xs j) w'' → K v w'') (hF : Fence.free F) :
    if Region.wanted o (yielded L.toArray (putsH xs L 0 a).tmps) = true then o.wpIn F n P (putsH xs L 0 a) w' (fun a'' w'' => ∃ v, a'' = (putsH xs L 0 a).put o.dst v ∧ K v w'') Q
    else (∀ f, o.about P w' (putsH xs L 0 a).eval = some f → F.fn f) ∧ K undef w' := by
  obtain ⟨η, hx, hfx, hO⟩ := inv
  have hkD : k ∉ t.D k := fun hm => by have := (hD k hm).2; rw [hS] at this; cases this
  have hkDi : ∀ i, i < L.length → S i = true → k ∉ t.D i := fun i hi hs hm => by have := (hcl i hi hs k hm).2; rw [hS] at this; cases this
  have hne : ∀ i, S i = true → i ≠ k := fun i hs e => by subst e; rw [hS] at hs; cases hs
  -- a place that is free for k holds what the text says
  have rd : ∀ (η' : Envs) (p : Nat), free L t η' k p → contAt t.L0 (t.wr η') S p L.length = t.at η' p k := by
    intro η' p hf
    refine contAt_read (Nat.le_of_lt hk) (fun j hj hl => ?_) (fun j hj hjN hl => ?_)
    · rcases hf.2 j (by omega) (by omega) hl with ⟨_, h2⟩ | ⟨h1, _⟩
      · exact (hD j h2).2
      · omega
    · by_cases e : j = k
      · subst e; exact hS
      · rcases hf.2 j hjN e hl with ⟨h1, _⟩ | ⟨_, h2⟩
        · omega
        · cases hsj : S j with
          | false => rfl
          | true => exact absurd h2 (hkDi j hjN hsj)
  have hg := h.guard η k o ho
  -- the operation is done
  have done : Told.Hold t η k → o.wpIn F n P (putsH xs L 0 a) w' (fun a'' w'' => ∃ v, a'' = (putsH xs L 0 a).put o.dst v ∧ K v w'') Q := by
    intro hh
    refine (h.acts η k o ho).out xs w' (fun i hi => hx i (hD i hi).1 (hD i hi).2) (fun i hi hik => ?_) ?_ hh _ ?_
    · refine hfx i hi ?_
      rcases hik with rfl | hm
      · exact hS
      · cases hsi : S i with
        | false => rfl
        | true => exact absurd hm (hkDi i hi hsi)
    · refine ⟨fun x hx => ?_, ?_⟩
      · obtain ⟨⟨p, x⟩, hm, rfl⟩ := List.mem_map.1 hx
        obtain ⟨h1, h2⟩ := h.rdf η k hk _ hm
        exact hO.obj p h1.1 x ((rd η p h1).trans h2)
      · rw [List.pairwise_map, List.pairwise_iff_getElem]
        intro i j hi hj hij
        obtain ⟨h1, h2⟩ := h.rdf η k hk _ (List.getElem_mem hi)
        obtain ⟨k1, k2⟩ := h.rdf η k hk _ (List.getElem_mem hj)
        refine hO.nd _ _ h1.1 k1.1 ?_ _ _ ((rd η _ h1).trans h2) ((rd η _ k1).trans k2)
        have hnd := h.rdn η k hk
        unfold List.Nodup at hnd
        rw [List.pairwise_map, List.pairwise_iff_getElem] at hnd
        exact hnd i j hi hj hij
    · intro E w'' hst
      refine hK _ _ ⟨upd η k E, fun i hi hs => ?_, fun i hi hs => ?_, ?_⟩
      · by_cases e : i = k
        · subst e
          simp only [if_true]
          refine .inl ⟨fun c hc => ?_, ?_⟩
          · have hcd := h.cin i hk c hc
            have hcs := hD c.1 hcd
            rw [h.vs_upd hcs.1 (hkDi c.1 hcs.1 hcs.2) (hne _ hcs.2)]
            exact hh c hc
          · unfold Told.vs
            rw [h.val_upd hk hkD, show upd η i E i = E from if_pos rfl]
        · simp only [if_neg e] at hs ⊢
          have hv := h.vs_upd (η := η) (E := E) hi (hkDi i hi hs) e
          have hcc : Told.Hold t (upd η k E) i ↔ Told.Hold t η i := by
            have heq : ∀ c ∈ t.cds i, t.vs (upd η k E) c.1 = t.vs η c.1 := fun c hc => by
              have hcd := h.cin i hi c hc
              have hcs := hcl i hi hs c.1 hcd
              exact h.vs_upd hcs.1 (hkDi c.1 hcs.1 hcs.2) (hne _ hcs.2)
            exact ⟨fun hh c hc => (heq c hc).symm.trans (hh c hc), fun hh c hc => (heq c hc).trans (hh c hc)⟩
          rcases hx i hi hs with ⟨h1, h2⟩ | ⟨h1, h2⟩
          · exact .inl ⟨hcc.2 h1, by rw [hv]; exact h2⟩
          · exact .inr ⟨fun h3 => h1 (hcc.1 h3), h2⟩
      · by_cases e : i = k
        · subst e; simp at hs
        · simp only [if_neg e] at hs ⊢
          exact hfx i hi hs
      · have hcg : ∀ p, contAt t.L0 (t.wr (upd η k E)) S p L.length = contAt t.L0 (t.wr η) S p L.length := fun p => contAt_congr fun j hj => ⟨rfl, fun hs => by rw [h.wr_upd hj (hkDi j hj hs) (hne j hs)]⟩
        have hwr : t.wr (upd η k E) k = t.wt η k E := by
          unfold Told.wr
          rw [h.wt_upd hk hkD, show upd η k E k = E from if_pos rfl]
        have hfr : ∀ p, (look (t.wr (upd η k E) k) p).isSome = true → free L t (upd η k E) k p := by
          intro p hp
          obtain ⟨x, hx⟩ := Option.isSome_iff_exists.1 hp
          exact h.wrf (upd η k E) k hk _ (look_mem hx)
        have hf : (fun p => contAt t.L0 (t.wr (upd η k E)) (fun j => if j = k then true else S j) p L.length) = updF (fun p => contAt t.L0 (t.wr η) S p L.length) (t.wt η k E) := by
          funext p
          rw [contAt_write hk hS (fun hl j hkj hjN hlj => ?_), hwr, hcg]
          · rfl
          · rcases (hfr p hl).2 j hjN (by omega) hlj with ⟨h1, _⟩ | ⟨_, h2⟩
            · omega
            · cases hsj : S j with
              | false => rfl
              | true => exact absurd h2 (hkDi j hjN hsj)
        rw [hf]
        refine hO.step hst fun b hb => ?_
        obtain ⟨p, o', ⟨x, hx⟩, hat⟩ := h.obf (upd η k E) k hk b (by rw [h.ob_upd hk hkD]; exact hb)
        have h1 := h.wrf (upd η k E) k hk _ hx
        exact ⟨p, o', h1.1, ⟨x, by rw [← hwr]; exact hx⟩, by rw [← hcg, rd _ _ h1]; exact hat⟩
  -- it is not done
  have skip : ¬ Told.Hold t η k → t.cds k ≠ [] → K undef w' := by
    intro hn hc
    have hw := h.still η k hk hc
    refine hK _ _ ⟨η, fun i hi hs => ?_, fun i hi hs => ?_, ?_⟩
    · by_cases e : i = k
      · subst e
        simp only [if_true]
        exact .inr ⟨hn, rfl⟩
      · simp only [if_neg e] at hs ⊢
        exact hx i hi hs
    · by_cases e : i = k
      · subst e; simp at hs
      · simp only [if_neg e] at hs ⊢
        exact hfx i hi hs
    · have hf : (fun p => contAt t.L0 (t.wr η) (fun j => if j = k then true else S j) p L.length) = fun p => contAt t.L0 (t.wr η) S p L.length := by
        funext p
        rw [contAt_write hk hS (fun hl => by rw [hw] at hl; cases hl), hw]
        rfl
      rw [hf]
      exact hO
  unfold guardOk at hg
  cases hgd : o.guard with
  | none =>
    rw [hgd] at hg
    simp only at hg
    rw [if_pos (by simp [Region.wanted, hgd])]
    exact done (fun c hc => by rw [hg] at hc; simp at hc)
  | some jb =>
    obtain ⟨j, b⟩ := jb
    rw [hgd] at hg
    simp only at hg
    obtain ⟨hc, hjD, ⟨E, hE⟩, d, hd, hw, hs⟩ := hg
    have hjx := hx j (hD j hjD).1 (hD j hjD).2
    have hlt : L.take L.length = L := List.take_length
    rcases hjx with ⟨h1, h2⟩ | ⟨h1, h2⟩
    · rw [hE] at h2
      have hwt := wanted_of (L := L) (N := L.length) (a := a) (xs := xs) hgd hd (by rw [hlt]; exact hw) hs h2
      rw [hlt] at hwt
      by_cases e : E = b
      · subst e
        rw [hwt, if_pos (by cases E <;> rfl)]
        refine done fun c hcm => ?_
        rw [hc] at hcm
        rcases List.mem_append.1 hcm with h3 | h3
        · exact h1 c h3
        · obtain rfl := List.mem_singleton.1 h3
          exact hE
      · rw [hwt, if_neg (by cases E <;> cases b <;> simp_all)]
        refine ⟨fun f _ => hF.2 f, skip (fun hh => e ?_) (by rw [hc]; simp)⟩
        have := hh (j, b) (by rw [hc]; simp)
        rw [hE] at this
        exact Value.bool.inj this
    · have hwt := wanted_undef (L := L) (N := L.length) (a := a) (xs := xs) hgd hd (by rw [hlt]; exact hw) hs h2
      rw [hlt] at hwt
      rw [hwt, if_neg (by decide)]
      refine ⟨fun f _ => hF.2 f, skip (fun hh => h1 fun c hcm => hh c (by rw [hc]; exact List.mem_append_left _ hcm)) (by rw [hc]; simp)⟩
end
end Go.Proofs.Ytkeheickaogpiaa
namespace Go.Proofs.Ytkeheickaogpiaa
open Go Go.RowKit Go.Shelf
section
variable {F : Fence} {n : Nat} {P : Program} {L : List Oper} {Q : Exit → Act → World → Prop} {a : Act} {t : Told} {R : List Nat} {base : World}
theorem InvR.congr {S S' : Nat → Bool} {xs xs' : Nat → Value} {w : World} (h : InvR L a t R base S xs w) (hs : ∀ i, i < L.length → S i = S' i) (hx : ∀ i, i < L.length → xs i = xs' i) : InvR L a t R base S' xs' w := by
  obtain ⟨η, h1, h2, h3⟩ := h
  refine ⟨η, fun i hi hS => by rw [← hx i hi]; exact h1 i hi (by rw [hs i hi]; exact hS), fun i hi hS => by rw [← hx i hi]; exact h2 i hi (by rw [hs i hi]; exact hS), ?_⟩
  have e : (fun p => contAt t.L0 (t.wr η) S' p L.length) = fun p => contAt t.L0 (t.wr η) S p L.length := by
    funext p
    exact (contAt_congr fun j hj => ⟨hs j hj, fun _ => rfl⟩).symm
  rw [e]
  exact h3
theorem InvR.drew {S : Nat → Bool} {xs : Nat → Value} {w : World} (h : InvR L a t R base S xs w) : InvR L a t R base S xs w.drew := by
  obtain ⟨η, h1, h2, h3⟩ := h
  exact ⟨η, h1, h2, h3.obj, h3.nd, h3.lo, h3.os, h3.tape, h3.output, h3.size, h3.far⟩
theorem wpAnyIn_re (h : ReOk F n P L Q a t) (hF : Fence.free F) (hc : Region.chainB .any L.toArray L.length = true) (hb : backB .any L.toArray L.length = true) (hb0 : backB .any L.toArray 0 = true) (hsl : slotsB L = true) (hD : depsB .any L.toArray L.length t.D = true)
    (hend : ∀ xs w', InvR L a t R base (fun _ => true) xs w' → Q .normal (putsH xs L 0 a) w') :
    ∀ (c fuel : Nat) (listed : Array Bool) (xs : Nat → Value) (w' : World), cntH listed L.length = c → c ≤ fuel → HeadInv .any L.toArray L.length listed →
      (∀ i, i < L.length → listed.getD i false = true → ∀ j ∈ t.D i, listed.getD j false = true) → InvR L a t R base (fun i => listed.getD i false) xs w' → wpAnyIn F n P .any L.toArray Q fuel listed (putsH xs L 0 a) w'
  | 0, fuel, listed, xs, w', hcnt, hf, inv, hk, hI => by
    have hall := cntH_zero L.length hcnt
    have hall2 : ∀ i, i < L.length → listed.getD i false = true := by
      intro i hi
      have h2 : i < listed.size := by rw [inv.size, List.size_toArray]; omega
      have := hall i hi
      simp [h2] at this ⊢
      exact this
    refine wpAnyIn_chain hc hb 0 L.length fuel listed _ w' (by rw [List.size_toArray]; omega) (Nat.le_refl _) (by omega) inv.size hall hall2 inv.tail ?_
    have e : L.toArray.toList.drop L.length = [] := by simp
    rw [e]
    exact hend xs w' (hI.congr (fun i hi => hall2 i hi) (fun _ _ => rfl))
  | c + 1, fuel, listed, xs, w', hcnt, hf, inv, hk, hI => by
    obtain ⟨f, rfl⟩ : ∃ f, fuel = f + 1 := ⟨fuel - 1, by omega⟩
    have hun : ∃ i, i < L.length ∧ listed.getD i true = false := by
      apply Classical.byContradiction
      intro hno
      have hall : ∀ i, i < L.length → listed.getD i true = true := fun i hi => by
        cases hl : listed.getD i true with
        | true => rfl
        | false => exact (hno ⟨i, hi, hl⟩).elim
      have : ∀ k, k ≤ L.length → cntH listed k = 0 := by
        intro k
        induction k with
        | zero => intro _; rfl
        | succ k ih => intro h; unfold cntH; rw [ih (by omega), hall k (by omega)]; rfl
      rw [this L.length (Nat.le_refl _)] at hcnt
      omega
    obtain ⟨i0, hi0, hu0⟩ := hun
    have some : Region.ready .any L.toArray listed = [] → ∀ d i, i = d → i < L.length → listed.getD i true = true := by
      intro hnil d
      induction d using Nat.strongRecOn with
      | _ d ih =>
        rintro i rfl hi
        cases hl : listed.getD i true with
        | true => rfl
        | false =>
          exfalso
          have hilt : i < L.toArray.size := by rw [List.size_toArray]; omega
          have hok : L.toArray[i]? = some L.toArray[i] := Array.getElem?_eq_getElem hilt
          have hB := List.all_eq_true.1 hb0 i (List.mem_range.2 hilt)
          rw [hok] at hB
          simp only [Bool.or_eq_true, decide_eq_true_eq, Option.map_some, Option.getD_some, Nat.not_lt_zero, false_or] at hB
          have : i ∈ Region.ready .any L.toArray listed := mem_ready.2 ⟨hl, _, hok, fun e he hbd => by
            have h2 := Array.all_eq_true'.1 hB e he
            rw [hbd] at h2
            have h3 : e.on < i := by simpa using h2
            have h4 := ih e.on h3 e.on rfl (by omega)
            have h5 : e.on < listed.size := by rw [inv.size, List.size_toArray]; omega
            rw [Array.getD_eq_getD_getElem?, Array.getElem?_eq_getElem h5] at h4 ⊢
            exact h4⟩
          rw [hnil] at this; cases this
    refine ⟨fun hnil => (by have := some hnil i0 i0 rfl hi0; rw [hu0] at this; cases this), fun i hi => ?_⟩
    have hiN : i < L.length := by
      obtain ⟨_, o, ho, _⟩ := mem_ready.1 hi
      have := (Array.getElem?_eq_some_iff.1 ho).1
      rwa [List.size_toArray] at this
    obtain ⟨hl, o, ho, hall⟩ := mem_ready.1 hi
    have hol : L[i]? = Option.some o := by rw [← List.getElem?_toArray]; exact ho
    have hDi : ∀ j ∈ t.D i, j < L.length ∧ listed.getD j false = true := by
      intro j hj
      have h1 := List.all_eq_true.1 (List.all_eq_true.1 hD i (List.mem_range.2 hiN)) j hj
      rw [ho] at h1
      simp only [Option.map_some, Option.getD_some, Bool.and_eq_true, decide_eq_true_eq] at h1
      refine ⟨h1.1, ?_⟩
      obtain ⟨e, he, h2⟩ := Array.any_eq_true'.1 h1.2
      simp only [Bool.and_eq_true, Bool.or_eq_true, beq_iff_eq, decide_eq_true_eq] at h2
      have h3 := hall e he h2.1
      rcases h2.2 with h4 | ⟨h4, h5⟩
      · rw [← h4]; exact h3
      · exact hk e.on h4 h3 j (by simpa using h5)
    have hDlt : ∀ i, i < L.length → ∀ j ∈ t.D i, j < L.length := by
      intro i hi j hj
      have h1 := List.all_eq_true.1 (List.all_eq_true.1 hD i (List.mem_range.2 hi)) j hj
      simp only [Bool.and_eq_true, decide_eq_true_eq] at h1
      exact h1.1
    have hSi : listed.getD i false = false := by
      have h2 : i < listed.size := by rw [inv.size, List.size_toArray]; omega
      simp [h2] at hl ⊢
      exact hl
    have hst := re_step h (S := fun i => listed.getD i false) (xs := xs) (w' := w') (k := i) (o := o) hiN hol hSi (fun j hj => hDi j hj) (fun i' hi' hs j hj => ⟨hDlt i' hi' j hj, hk i' hi' hs j hj⟩) hI
      (fun v w'' => wpAnyIn F n P .any L.toArray Q f (listed.setIfInBounds i true) ((putsH xs L 0 a).put o.dst v) w'') (fun v w'' hI2 => by
        rw [putsH_set v _ 0 a i o hsl hol, Nat.zero_add]
        refine wpAnyIn_re h hF hc hb hb0 hsl hD hend c f _ _ w'' (by have := cntH_set hl L.length hiN; omega) (by omega) (inv.set hi hiN) ?_ (hI2.congr (fun j hj => ?_) (fun _ _ => rfl))
        · intro j hj hlj j' hj'
          by_cases e : j = i
          · subst e
            exact getD_set_true (hDi j' hj').2
          · rw [getD_set_ne false (Ne.symm e)] at hlj
            exact getD_set_true (hk j hj hlj j' hj')
        · show (if j = i then true else listed.getD j false) = _
          by_cases e : j = i
          · subst e
            have h2 : j < listed.size := by rw [inv.size, List.size_toArray]; omega
            simp [h2]
          · rw [if_neg e, getD_set_ne false (Ne.symm e)]) hF
    unfold wpOpIn
    simp only [ho]
    split
    · rename_i hw
      rw [if_pos hw] at hst
      exact Oper.wpIn_mono (fun a'' w'' ⟨v, e, h⟩ => by rw [e]; exact h) hst
    · rename_i hw
      rw [if_neg hw] at hst
      exact hst
theorem wpListIn_re (h : ReOk F n P L Q a t) (hF : Fence.free F) (hsl : slotsB L = true) (hD : ∀ k, k < L.length → ∀ j ∈ t.D k, j < k)
    (hend : ∀ xs w', InvR L a t R base (fun _ => true) xs w' → Q .normal (putsH xs L 0 a) w') :
    ∀ (d k : Nat) (xs : Nat → Value) (w' : World), k + d = L.length → InvR L a t R base (fun i => decide (i < k)) xs w' → wpListIn F n P L.toArray Q (L.drop k) (putsH xs L 0 a) w'
  | 0, k, xs, w', hk, hI => by
    obtain rfl : k = L.length := by omega
    rw [List.drop_length]
    exact hend xs w' (hI.congr (fun i hi => by simpa using hi) (fun _ _ => rfl))
  | d + 1, k, xs, w', hk, hI => by
    have hkl : k < L.length := by omega
    rw [List.drop_eq_getElem_cons hkl]
    have hol : L[k]? = some L[k] := List.getElem?_eq_getElem hkl
    have hst := re_step h (S := fun i => decide (i < k)) (xs := xs) (w' := w') (k := k) (o := L[k]) hkl hol (by simp) (fun j hj => ⟨by have := hD k hkl j hj; omega, by simpa using hD k hkl j hj⟩)
      (fun i hi hs j hj => by
        have h1 := hD i hi j hj
        have h2 : i < k := by simpa using hs
        exact ⟨by omega, by simp; omega⟩) hI
      (fun v w'' => wpListIn F n P L.toArray Q (L.drop (k + 1)) ((putsH xs L 0 a).put L[k].dst v) w'') (fun v w'' hI2 => by
        rw [putsH_set v _ 0 a k _ hsl hol, Nat.zero_add]
        refine wpListIn_re h hF hsl hD hend d (k + 1) _ w'' (by omega) (hI2.congr (fun j hj => ?_) (fun _ _ => rfl))
        show (if j = k then true else decide (j < k)) = decide (j < k + 1)
        by_cases e : j = k
        · subst e; simp
        · rw [if_neg e, decide_eq_decide]; omega) hF
    unfold wpListIn
    split
    · rename_i hw
      rw [if_pos hw] at hst
      exact Oper.wpIn_mono (fun a'' w'' ⟨v, e, h⟩ => by rw [e]; exact h) hst
    · rename_i hw
      rw [if_neg hw] at hst
      exact hst
/-- What must be seen of the region itself. -/
def shapeB (drawn : Bool) (L : List Oper) (D : Nat → List Nat) : Bool :=
  slotsB L && (if drawn then Region.chainB .any L.toArray L.length && backB .any L.toArray L.length && backB .any L.toArray 0 && depsB .any L.toArray L.length D
    else (List.range L.length).all fun k => (D k).all fun j => decide (j < k))
theorem wpIn_region_reOk {id : Nat} {drawn : Bool} {w : World} (hm : P.follows .mixedOrders = true) (h : ReOk F n P L Q a t) (hF : Fence.free F) (hs : shapeB drawn L t.D = true)
    (OW : Hid (OwnS R base t.L0 w)) (Le : Envs → Objs) (hLe : ∀ η, (List.range t.m).map (fun p => t.at η p L.length) = (Le η).map some)
    (hend : ∀ (η : Envs) (xs : Nat → Value) (w' : World), (∀ i, i < L.length → t.Is η i (xs i)) → Hid (OwnS R base (Le η) w') → Q .normal (putsH xs L 0 a) w') : (Code.region id L.toArray drawn).wpIn F n P Q a w := by
  have hend2 : ∀ xs w', InvR L a t R base (fun _ => true) xs w' → Q .normal (putsH xs L 0 a) w' := by
    intro xs w' ⟨η, h1, _, h3⟩
    refine hend η xs w' (fun i hi => h1 i hi rfl) ?_
    have hl : (Le η).length = t.m := by
      have := congrArg List.length (hLe η)
      simpa using this.symm
    have hat : ∀ p, p < t.m → t.at η p L.length = (Le η)[p]? := by
      intro p hp
      have := congrArg (fun l => l[p]?) (hLe η)
      simp only [List.getElem?_map, List.getElem?_range hp, Option.map_some] at this
      cases hq : (Le η)[p]? with
      | none => rw [hq] at this; cases this
      | some x => rw [hq] at this; simpa using this
    have hmem : ∀ x ∈ Le η, ∃ p, p < t.m ∧ t.at η p L.length = some x := by
      intro x hx
      obtain ⟨p, hp, rfl⟩ := List.getElem_of_mem hx
      exact ⟨p, by omega, (hat p (by omega)).trans (List.getElem?_eq_getElem hp)⟩
    refine Lib.hid (OwnS.mk (fun x hx => ?_) ?_ (fun x hx => ?_) h3.os h3.tape h3.output h3.size h3.far)
    · obtain ⟨p, hp, e⟩ := hmem x hx
      exact h3.obj p hp x e
    · rw [List.pairwise_iff_getElem]
      intro i j hi hj hij
      exact h3.nd i j (by omega) (by omega) (by omega) _ _ ((hat i (by omega)).trans (List.getElem?_eq_getElem hi)) ((hat j (by omega)).trans (List.getElem?_eq_getElem hj))
    · obtain ⟨p, hp, e⟩ := hmem x hx
      exact h3.lo p hp x e
  have h0 : putsH (firstX L a) L 0 a = a := putsH_first _ 0 a fun i o d ho hd => by
    unfold firstX
    rw [Nat.zero_add, ho, Option.bind_some, hd]
  have hc0 : ∀ (wr : Nat → Wr) (p N : Nat), contAt t.L0 wr (fun _ => false) p N = t.L0[p]? := by
    intro wr p N
    induction N with
    | zero => rfl
    | succ N ih => rw [contAt_skip (.inl rfl), ih]
  have hI0 : InvR L a t R base (fun _ => false) (firstX L a) w := by
    have hO := OW.out
    refine ⟨fun _ => Env.zero, fun i _ hs => absurd hs Bool.false_ne_true, fun _ _ _ => rfl, ?_⟩
    have e : (fun p => contAt t.L0 (t.wr fun _ => Env.zero) (fun _ => false) p L.length) = fun p => t.L0[p]? := by funext p; exact hc0 _ _ _
    rw [e]
    refine ⟨fun p _ x hx => hO.obj x (List.mem_of_getElem? hx), fun p q _ _ hne x y hx hy => ?_, fun p _ x hx => hO.lo x (List.mem_of_getElem? hx), hO.os, hO.tape, hO.output, hO.size, hO.far⟩
    obtain ⟨h1, rfl⟩ := List.getElem?_eq_some_iff.1 hx
    obtain ⟨h2, rfl⟩ := List.getElem?_eq_some_iff.1 hy
    have hp := List.pairwise_iff_getElem.1 hO.nd
    rcases Nat.lt_or_gt_of_ne hne with l | l
    · exact hp p q h1 h2 l
    · exact Ne.symm (hp q p h2 h1 l)
  unfold shapeB at hs
  simp only [Bool.and_eq_true] at hs
  obtain ⟨hsl, hs⟩ := hs
  cases drawn with
  | true =>
    simp only [if_true, Bool.and_eq_true] at hs
    obtain ⟨⟨⟨hc, hb⟩, hb0⟩, hD⟩ := hs
    refine wpIn_region_any hm ?_
    have hle : ∀ k, cntH (Array.replicate L.length false) k ≤ k := by
      intro k
      induction k with
      | zero => exact Nat.le_refl _
      | succ k ih => unfold cntH; split <;> omega
    have h := wpAnyIn_re (R := R) (base := base) h hF hc hb hb0 hsl hD hend2 _ L.toArray.size (Array.replicate L.length false) (firstX L a) w.drew rfl (by rw [List.size_toArray]; exact hle _)
      ⟨by simp, fun j oj _ hl e _ _ => (by rw [getD_replicate_false] at hl; exact Bool.noConfusion hl), fun t _ htt => (by rw [List.size_toArray] at htt; simp [htt])⟩ (fun i _ hl => (by rw [getD_replicate_false] at hl; exact Bool.noConfusion hl))
      (hI0.drew.congr (fun i _ => (getD_replicate_false _ _).symm) (fun _ _ => rfl))
    rw [h0] at h
    simpa using h
  | false =>
    simp only [Bool.false_eq_true, if_false] at hs
    refine wpIn_region_lit ?_
    have h := wpListIn_re (R := R) (base := base) h hF hsl (fun k hk j hj => by
      have := List.all_eq_true.1 (List.all_eq_true.1 hs k (List.mem_range.2 hk)) j hj
      simpa using this) hend2 L.length 0 (firstX L a) w (by omega) (hI0.congr (fun i _ => by simp) (fun _ _ => rfl))
    rw [h0, List.drop_zero] at h
    exact h
end
end Go.Proofs.Ytkeheickaogpiaa
namespace Go.Proofs.Ytkeheickaogpiaa
open Go Go.RowKit Go.Shelf

def vS (s : Sem Value) : Sem Next := do pure (.value (← s))
/-- The operands that an operation reads. -/
def opds : Op → Option (List Operand)
  | .move x => some [x]
  | .assign x => some [x]
  | .load _ x => some [x]
  | .box _ x => some [x]
  | .alloc _ => some []
  | .nilCheck x => some [x]
  | .unOp _ _ x => some [x]
  | .convert _ _ x => some [x]
  | .sliceToArrayPointer _ x => some [x]
  | .fieldAddr _ x _ => some [x]
  | .field _ x _ => some [x]
  | .extract x _ => some [x]
  | .binOp _ _ x y _ => some [x, y]
  | .indexAddr _ x y => some [x, y]
  | .index _ x y => some [x, y]
  | .lookup _ x y _ => some [x, y]
  | .store _ x y => some [x, y]
  | .makeSlice _ x y => some [x, y]
  | .mapUpdate _ x y z => some [x, y, z]
  | .build _ parts => some (parts.toList.map (·.2))
  | .buildSlice _ _ parts => some (parts.toList.map (·.2))
  | .slice _ x lo hi mx => some (x :: (lo.toList ++ hi.toList ++ mx.toList))
  | .makeFunc _ first captured => some (first.toList ++ captured.toList)
  | .makeMap _ r => some r.toList
  | .call c => match c.callee with | .builtin _ => some c.args.toList | _ => none
  | _ => none
theorem map_congrA {ρ ρ' : Operand → Value} {xs : Array Operand} (h : ∀ x ∈ xs.toList, ρ x = ρ' x) : xs.map ρ = xs.map ρ' := Array.map_congr_left fun x hx => h x (by simpa using hx)
theorem map_congrO {ρ ρ' : Operand → Value} {x : Option Operand} (h : ∀ y ∈ x.toList, ρ y = ρ' y) : x.map ρ = x.map ρ' := by cases x <;> simp_all
theorem map_congrP {ρ ρ' : Operand → Value} {xs : Array (Nat × Operand)} (h : ∀ x ∈ xs.toList.map (·.2), ρ x = ρ' x) : xs.map (fun (i, x) => (i, ρ x)) = xs.map (fun (i, x) => (i, ρ' x)) :=
  Array.map_congr_left fun x hx => by
    obtain ⟨i, x⟩ := x
    simp only
    rw [h x (List.mem_map.2 ⟨(i, x), by simpa using hx, rfl⟩)]
theorem execOp_congr {ρ ρ' : Operand → Value} {o : Oper} {l : List Operand} (h : opds o.op = some l) (hl : ∀ x ∈ l, ρ x = ρ' x) : execOp ρ o = execOp ρ' o := by
  unfold execOp
  cases hop : o.op <;> rw [hop] at h <;> simp only [opds, reduceCtorEq, Option.some.injEq] at h
  case call c =>
    cases hc : c.callee <;> rw [hc] at h <;> simp only [reduceCtorEq, Option.some.injEq] at h
    subst h
    simp only [resolve, hc, map_congrA hl]
  case build => subst h; simp only [map_congrP hl]
  case buildSlice => subst h; simp only [map_congrP hl]
  case makeFunc => subst h; simp only [map_congrA fun x hx => hl x (List.mem_append_left _ hx), map_congrA fun x hx => hl x (List.mem_append_right _ hx)]
  case makeMap => subst h; simp only [map_congrO hl]
  case slice =>
    subst h
    simp only [hl _ (List.mem_cons_self ..), map_congrO fun x hx => hl x (List.mem_cons_of_mem _ (List.mem_append_left _ (List.mem_append_left _ hx))), map_congrO fun x hx => hl x (List.mem_cons_of_mem _ (List.mem_append_left _ (List.mem_append_right _ hx))), map_congrO fun x hx => hl x (List.mem_cons_of_mem _ (List.mem_append_right _ hx))]
  all_goals (subst h; simp only [List.mem_cons, List.not_mem_nil, or_false, forall_eq_or_imp, forall_eq] at hl; simp only [hl])

/-- What an operation's value, and what it does, rests on. -/
inductive Hint (F : Fence) (n : Nat) (P : Program) : Type
  | pv (v : Value)
  | tv (v : Value) (s : Sem Value) (h : ∀ w, s.run P w = .ok v w)
  | tc (v : Value) (j : Nat) (E b : Bool) (s : Sem Value) (h : E = b → ∀ w, s.run P w = .ok v w)
  | pk (v : Value)
  | dead (v : Value)
  | ld (v : Value) (p off : Nat)
  | lt (v : Value) (p off g : Nat) (cs : Array Value) (t : TypeId) (h : cs[off]? = some v)
  | ls (l : List Value) (p off : Nat)
  | lr (p : Nat) (cs : Array Value) (T : TypeId) (h : (P.info? T).map (·.size) = some cs.size)
  | al (p : Nat) (T : TypeId) (cs : Array Value)
  | bx (p : Nat) (T : TypeId) (v : Value)
  | st (p g off : Nat) (t : TypeId) (v : Value) (cs : Array Value)
  | sw (p g off : Nat) (t : TypeId) (v : Value) (cs cs' : Array Value) (h : cs.setIfInBounds off v = cs') (hi : off < cs.size)
  | ss (p g off : Nat) (t : TypeId) (l : List Value) (cs : Array Value)
  | sr (p g : Nat) (t T : TypeId) (cs cs' : Array Value) (h : (P.info? T).map (·.size) = some cs'.size) (hs : cs'.size = cs.size) (h1 : cs'.all (·.oneCell') = true)
  | cl (f : FuncId) (args : Array Value) (v : Env → Value) (rd : Wr) (O : List Nat) (wt : Env → Wr) (he : Enters P f)
      (h : ∀ w', Has (rd.map (·.2)) w' → CallsIn F (n - 1) P f args w' fun e w'' => ∃ E, e = .returned (v E) ∧ Step O ((wt E).map (·.2)) w' w'')
  | gn (s : Sem Next) (v : Env → Value) (rd : Wr) (O : List Nat) (wt : Env → Wr)
      (h : ∀ w', Has (rd.map (·.2)) w' → ∃ E w'', (s.run P w' = .ok (.value (v E)) w'' ∨ (s.run P w' = .ok .skip w'' ∧ v E = undef)) ∧ Step O ((wt E).map (·.2)) w' w'')
section
variable {F : Fence} {n : Nat} {P : Program}
def Hint.val : Hint F n P → Env → Value
  | pv v, _ | tv v _ _, _ | tc v _ _ _ _ _, _ | pk v, _ | dead v, _ | ld v _ _, _ | lt v _ _ _ _ _ _, _ => v
  | ls l _ _, _ => .agg l.toArray
  | lr _ cs _ _, _ => .agg cs
  | al _ _ _, E => .pointer (some ⟨E.blk 0, 0, none⟩)
  | bx _ _ _, E => .pointer (some ⟨E.blk 0, 0, none⟩)
  | st _ _ _ _ _ _, _ | sw _ _ _ _ _ _ _ _ _, _ | ss _ _ _ _ _ _, _ | sr _ _ _ _ _ _ _ _ _, _ => undef
  | cl _ _ v _ _ _ _ _, E => v E
  | gn _ v _ _ _ _, E => v E
def at1 (p : Nat) (c : Nat → Option (Nat × Obj)) : Wr := match c p with | some x => [(p, x)] | none => []
def Hint.rd : Hint F n P → (Nat → Option (Nat × Obj)) → Wr
  | ld _ p _, c | ls _ p _, c | lr p _ _ _, c | st p _ _ _ _ _, c | ss p _ _ _ _ _, c => at1 p c
  | lt _ p _ g cs t _, _ => [(p, (g, .cells cs t (0, 0)))]
  | sw p g _ t _ cs _ _ _, _ => [(p, (g, .cells cs t (0, 0)))]
  | sr p g t _ cs _ _ _ _, _ => [(p, (g, .cells cs t (0, 0)))]
  | cl _ _ _ rd _ _ _ _, _ => rd
  | gn _ _ rd _ _ _, _ => rd
  | _, _ => []
def Hint.wt : Hint F n P → Env → Wr
  | st p g _ t _ cs, _ => [(p, (g, .cells cs t (0, 0)))]
  | sw p g _ t _ _ cs' _ _, _ => [(p, (g, .cells cs' t (0, 0)))]
  | ss p g _ t _ cs, _ => [(p, (g, .cells cs t (0, 0)))]
  | sr p g t _ _ cs' _ _ _, _ => [(p, (g, .cells cs' t (0, 0)))]
  | al p T cs, E => [(p, (E.blk 0, .cells cs T (0, 0)))]
  | bx p T v, E => [(p, (E.blk 0, .cells v.cells T (0, 0)))]
  | cl _ _ _ _ _ wt _ _, E => wt E
  | gn _ _ _ _ wt _, E => wt E
  | _, _ => []
def Hint.ob : Hint F n P → List Nat
  | st _ g _ _ _ _ => [g]
  | sw _ g _ _ _ _ _ _ _ => [g]
  | ss _ g _ _ _ _ => [g]
  | sr _ g _ _ _ _ _ _ _ => [g]
  | cl _ _ _ _ O _ _ _ => O
  | gn _ _ _ O _ _ => O
  | _ => []
end

abbrev Eqn := (α : Type) × (α × α)
def sE {α : Type} (a b : α) : Eqn := ⟨α, (a, b)⟩
def sB (b : Bool) : Eqn := ⟨Bool, (b, true)⟩
def Eqn.lhs (e : Eqn) : (α : Type) × α := ⟨e.1, e.2.1⟩
def Eqn.rhs (e : Eqn) : (α : Type) × α := ⟨e.1, e.2.2⟩
theorem Eqn.of {e : Eqn} (h : e.lhs = e.rhs) : e.2.1 = e.2.2 := by
  obtain ⟨α, x, y⟩ := e
  unfold Eqn.lhs Eqn.rhs at h
  simp only [Sigma.mk.injEq, heq_eq_eq, true_and] at h
  exact h
theorem Eqn.all {l : List Eqn} (h : l.map Eqn.lhs = l.map Eqn.rhs) : ∀ e ∈ l, e.2.1 = e.2.2 := by
  induction l with
  | nil => intro e he; simp at he
  | cons x r ih =>
    simp only [List.map_cons, List.cons.injEq] at h
    intro e he
    rcases List.mem_cons.1 he with rfl | he
    · exact Eqn.of h.1
    · exact ih h.2 e he

/-- What each operation waits for, all told. -/
def depL (N : Nat) : List Oper → List (List Nat) → List (List Nat)
  | [], acc => acc
  | o :: os, acc => depL N os (acc ++ [(o.after.toList.foldl (fun l e => if Region.binds .any e && Nat.blt e.on N then (e.on :: (acc.getD e.on [])).foldl (fun l j => if l.contains j then l else j :: l) l else l) [])])
def cdsL : List Oper → List (List (Nat × Bool)) → List (List (Nat × Bool))
  | [], acc => acc
  | o :: os, acc => cdsL os (acc ++ [match o.guard with | none => [] | some (j, b) => acc.getD j [] ++ [(j, b)]])
def toldR {F : Fence} {n : Nat} {P : Program} (DL : List (List Nat)) (CL : List (List (Nat × Bool))) (L0 : Objs) (m : Nat) (hs : Envs → List (Hint F n P)) : Told where
  val η k E := match (hs η)[k]? with | some h => h.val E | none => undef
  rd η k := match (hs η)[k]? with | some h => h.rd (fun p => contAt L0 (fun j => match (hs η)[j]? with | some h => h.wt (η j) | none => []) (fun _ => true) p k) | none => []
  wt η k E := match (hs η)[k]? with | some h => h.wt E | none => []
  ob η k := match (hs η)[k]? with | some h => h.ob | none => []
  cds k := CL.getD k []
  D k := DL.getD k []
  L0 := L0
  m := m

section
variable (L : List Oper) (a : Act) (t : Told) (η : Envs) (k : Nat)
def rhoR : Operand → Value
  | .tmp i => match whoPuts i L 0 with
    | some j => if (t.D k).contains j then t.vs η j else a.eval (.tmp i)
    | none => a.eval (.tmp i)
  | x => a.eval x
def okR (C : List (Nat × Bool)) : Operand → Bool
  | .tmp i => match whoPuts i L 0 with
    | some j => Nat.blt i a.tmps.size && (if (t.D k).contains j then (t.cds j).all (C.contains ·) else (j == k || (t.D j).contains k))
    | none => true
  | _ => true
def opOk (o : Oper) : Bool := noDefer o && match opds o.op with | some l => l.all (okR L a t k (t.cds k)) | none => false
def nodupB : List Nat → Bool
  | [] => true
  | x :: r => !r.contains x && nodupB r
def isB : Value → Bool
  | .bool _ => true
  | _ => false
def aggB (P : Program) (T : TypeId) : Bool := match P.underlying T with | some (.struct _) => true | some (.array _ _) => true | _ => false
def ptrV (g off : Nat) : Value := .pointer (some ⟨g, off, none⟩)
def andE : Bool → Bool → Value → Option Value
  | true, E, .bool X => some (.bool (E && X))
  | _, _, _ => none
def orE : Bool → Bool → Value → Option Value
  | true, E, .bool X => some (.bool (E || X))
  | _, _, _ => none
def pickE (c x y : Operand) : Option Value :=
  let C := match c with | .tmp i => (match whoPuts i L 0 with | some j => if (t.D k).contains j then some j else none | none => none) | _ => none
  let Cx := match C with | some j => t.cds k ++ [(j, true)] | none => t.cds k
  let Cy := match C with | some j => t.cds k ++ [(j, false)] | none => t.cds k
  match rhoR L a t η k c with
  | .bool E => match y with
    | .const (.bool false) => andE (okR L a t k Cx x) E (rhoR L a t η k x)
    | _ => match x with
      | .const (.bool true) => orE (okR L a t k Cy y) E (rhoR L a t η k y)
      | _ => none
  | _ => none
/-- The equations of each kind. -/
def kindE {F : Fence} {n : Nat} {P : Program} (o : Oper) : Hint F n P → List Eqn
  | .pv v => [sB (opOk L a t k o), sE (fun w => (execOp (rhoR L a t η k) o).run P w) (fun w => .ok (.value v) w)]
  | .tv _ s _ => [sB (opOk L a t k o), sE (fun w => (execOp (rhoR L a t η k) o).run P w) (fun w => (vS s).run P w)]
  | .tc _ j E b s _ => [sB (opOk L a t k o), sB ((t.cds k).contains (j, b)), sE (t.vs η j) (.bool E), sE (fun w => (execOp (rhoR L a t η k) o).run P w) (fun w => (vS s).run P w)]
  | .pk v => match o.op with
    | .pick c x y => [sB (okR L a t k (t.cds k) c), sE (pickE L a t η k c x y) (some v)]
    | _ => [sB false]
  | .dead _ => match (t.cds k).getLast? with
    | some (j, b) => [sE (t.vs η j) (.bool (!b))]
    | none => [sB false]
  | .ld v p off => match o.op, t.at η p k with
    | .load T x, some (g, .cells cs _ (0, 0)) => [sB (okR L a t k (t.cds k) x), sE (rhoR L a t η k x) (ptrV g off), sE cs[off]? (some v), sE (fun w => (isAgg T).run P w) (fun w => .ok false w)]
    | _, _ => [sB false]
  | .lt _ _ off g _ _ _ => match o.op with
    | .load T x => [sB (okR L a t k (t.cds k) x), sE (rhoR L a t η k x) (ptrV g off), sE (fun w => (isAgg T).run P w) (fun w => .ok false w)]
    | _ => [sB false]
  | .ls l p off => match o.op, t.at η p k with
    | .load T x, some (g, .cells cs _ (0, 0)) => [sB (okR L a t k (t.cds k) x), sE (rhoR L a t η k x) (ptrV g off), sE ((cs.toList.drop off).take l.length) l, sB (aggB P T), sE ((P.info? T).map (·.size)) (some l.length)]
    | _, _ => [sB false]
  | .lr p cs T _ => match o.op, t.at η p k with
    | .load T' x, some (g, .cells cs' _ (0, 0)) => [sB (okR L a t k (t.cds k) x), sE (rhoR L a t η k x) (ptrV g 0), sE cs' cs, sE T' T, sB (aggB P T)]
    | _, _ => [sB false]
  | .al _ T cs => match o.op with
    | .alloc T' => [sE T' T, sE (fun w => (Instr.alloc T true (.tuple #[])).run P w) (fun w => .ok (ptrV w.heap.size 0) (w.alloc (.cells cs T)))]
    | _ => [sB false]
  | .bx _ T v => match o.op with
    | .box T' x => [sE T' T, sB (okR L a t k (t.cds k) x), sE (rhoR L a t η k x) v]
    | _ => [sB false]
  | .st p g off ty v cs' => match o.op, t.at η p k with
    | .store T x y, some (g', .cells cs ty' (0, 0)) => [sB (okR L a t k (t.cds k) x), sB (okR L a t k (t.cds k) y), sE (g', ty') (g, ty), sE (rhoR L a t η k x) (ptrV g off), sE (rhoR L a t η k y) v, sE (cs.setIfInBounds off v) cs', sB (Nat.blt off cs.size), sB v.oneCell', sE ((P.info? T).map (·.size)) (some 1)]
    | _, _ => [sB false]
  | .sw _ g off _ v _ _ _ _ => match o.op with
    | .store T x y => [sB (okR L a t k (t.cds k) x), sB (okR L a t k (t.cds k) y), sE (rhoR L a t η k x) (ptrV g off), sE (rhoR L a t η k y) v, sB v.oneCell', sE ((P.info? T).map (·.size)) (some 1)]
    | _ => [sB false]
  | .ss p g off ty l cs' => match o.op, t.at η p k with
    | .store T x y, some (g', .cells cs ty' (0, 0)) => [sB (okR L a t k (t.cds k) x), sB (okR L a t k (t.cds k) y), sE (g', ty') (g, ty), sE (rhoR L a t η k x) (ptrV g off), sE (rhoR L a t η k y) (.agg l.toArray), sE (cs.toList.take off ++ l ++ cs.toList.drop (off + l.length)) cs'.toList, sB (Nat.ble (off + l.length) cs.size), sB (l.all (·.oneCell')), sE ((P.info? T).map (·.size)) (some l.length)]
    | _, _ => [sB false]
  | .sr _ g _ T _ cs' _ _ _ => match o.op with
    | .store T' x y => [sB (okR L a t k (t.cds k) x), sB (okR L a t k (t.cds k) y), sE T' T, sE (rhoR L a t η k x) (ptrV g 0), sE (rhoR L a t η k y) (.agg cs')]
    | _ => [sB false]
  | .cl f args _ _ _ _ _ _ => match o.op with
    | .call ⟨.value (.func f'), xs, _⟩ => [sE f' f, sB (xs.toList.all (okR L a t k (t.cds k))), sE (xs.toList.map (rhoR L a t η k)) args.toList]
    | _ => [sB false]
  | .gn s _ _ _ _ _ => [sB (opOk L a t k o), sE (fun w => (execOp (rhoR L a t η k) o).run P w) (fun w => s.run P w)]
/-- The equations that each operation asks for. -/
def genE (o : Oper) : List Eqn :=
  [sE (t.cds k) (match o.guard with | none => [] | some (j, b) => t.cds j ++ [(j, b)]),
   sB (match o.guard with
    | none => true
    | some (j, _) => (t.D k).contains j && isB (t.vs η j) && (match (L.toArray[j]?).bind (·.dst) with | some d => (whoPuts d L 0 == some j) && Nat.blt d a.tmps.size | none => false)),
   sB ((t.cds k).all fun c => (t.D k).contains c.1),
   sB ((t.cds k).isEmpty || (t.wr η k).isEmpty),
   sB (((t.rd η k).map (·.1) ++ (t.wr η k).map (·.1)).all fun p => Nat.blt p t.m && (List.range L.length).all fun j => j == k || (look (t.wr η j) p).isNone || (Nat.blt j k && (t.D k).contains j) || (Nat.blt k j && (t.D j).contains k)),
   sB (nodupB ((t.rd η k).map (·.1))),
   sE ((t.rd η k).map fun x => t.at η x.1 k) ((t.rd η k).map fun x => some x.2),
   sE (t.ob η k) (((t.wr η k).map fun x => (t.at η x.1 k).map (·.1)).filterMap id),
   sE (t.val (mask (t.D k) η) k) (t.val η k),
   sE (t.wt (mask (t.D k) η) k) (t.wt η k),
   sE (t.ob (mask (t.D k) η) k) (t.ob η k)]
end
def allE {F : Fence} {n : Nat} {P : Program} (L : List Oper) (a : Act) (t : Told) (η : Envs) (k : Nat) : List Oper → List (Hint F n P) → List Eqn
  | [], [] => []
  | o :: os, h :: hs => genE L a t η k o ++ kindE L a t η k o h ++ allE L a t η (k + 1) os hs
  | _, _ => [sB false]
theorem allE_get {F : Fence} {n : Nat} {P : Program} {L : List Oper} {a : Act} {t : Told} {η : Envs} : ∀ {k : Nat} {os : List Oper} {hs : List (Hint F n P)}, (∀ e ∈ allE L a t η k os hs, e.2.1 = e.2.2) → ∀ i o, os[i]? = some o → ∃ h, hs[i]? = some h ∧ ∀ e ∈ genE L a t η (k + i) o ++ kindE L a t η (k + i) o h, e.2.1 = e.2.2
  | _, [], _, _, i, o, ho => by simp at ho
  | k, p :: os, [], h, i, o, ho => by
    have := h (sB false) (by simp [allE])
    cases this
  | k, p :: os, g :: hs, h, 0, o, ho => by
    simp only [List.getElem?_cons_zero, Option.some.injEq] at ho
    subst ho
    exact ⟨g, rfl, fun e he => h e (by unfold allE; exact List.mem_append_left _ he)⟩
  | k, p :: os, g :: hs, h, i + 1, o, ho => by
    rw [List.getElem?_cons_succ] at ho
    have := allE_get (k := k + 1) (os := os) (hs := hs) (fun e he => h e (by unfold allE; exact List.mem_append_right _ he)) i o ho
    rwa [show k + 1 + i = k + (i + 1) by omega] at this
end Go.Proofs.Ytkeheickaogpiaa
