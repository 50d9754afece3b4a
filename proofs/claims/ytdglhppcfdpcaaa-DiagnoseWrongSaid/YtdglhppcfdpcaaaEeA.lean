/- Several texts in one: Ea Eb Ec. -/
import Derived.Test.YtdglhppcfdpcaaaOwX
namespace Go.Proofs.Ytdglhppcfdpcaaa.E
open Go Go.RowKit Go.Shelf

/-- What an operation makes that is not known ahead. -/
structure Env where
  blk : Nat → Nat
  num : Nat → Nat
  val : Nat → Value
def Env.zero : Env := ⟨fun _ => 0, fun _ => 0, fun _ => undef⟩
abbrev Envs := Nat → Env
/-- Blocks that are told one by one, or of which a predicate holds. -/
inductive Ent where
  | c (bs : Objs)
  | p (P : Objs → Prop)
abbrev Ents := List Ent
abbrev ob (g : Nat) (cs : Array Value) (t : TypeId) : Ent := .c [(g, .cells cs t (0, 0))]
def Ent.sat : Ent → Objs → Prop
  | .c l, bs => bs = l
  | .p P, bs => P bs
abbrev Mem := Nat → Option Ent
abbrev Wr := List (Nat × Ent)
abbrev Cnc := Nat → Objs
abbrev ids (l : Objs) : List Nat := l.map (·.1)

/-- The entries that f tells, at places below m, stand apart as c has them, in the blocks R or in new ones; beside them the world base is as it was. -/
structure OwnF (R : List Nat) (base : World) (m : Nat) (f : Mem) (c : Cnc) (W : World) : Prop where
  sat : ∀ p, p < m → ∀ x, f p = some x → x.sat (c p)
  nil : ∀ p, p < m → f p = Option.none → c p = []
  obj : ∀ p, p < m → ∀ z ∈ c p, W.heap[z.1]? = some z.2
  inn : ∀ p, p < m → (c p).Pairwise (fun x y => x.1 ≠ y.1)
  nd : ∀ p q, p < m → q < m → p ≠ q → ∀ z ∈ c p, ∀ u ∈ c q, z.1 ≠ u.1
  lo : ∀ p, p < m → ∀ z ∈ c p, z.1 ∈ R ∨ base.heap.size ≤ z.1
  os : W.os = base.os
  tape : W.tape = base.tape
  output : W.output = base.output
  size : base.heap.size ≤ W.heap.size
  far : ∀ b, b < base.heap.size → b ∉ R → W.heap[b]? = base.heap[b]?
/-- The same of a list. -/
def OwnE (R : List Nat) (base : World) (L : Ents) (W : World) : Prop := ∃ c, OwnF R base L.length (fun p => L[p]?) c W
/-- O: blocks that may be other ones now; N: what lies in these, or in new ones; all else as it was. -/
structure Step (O : List Nat) (N : Objs) (W W' : World) : Prop where
  os : W'.os = W.os
  tape : W'.tape = W.tape
  output : W'.output = W.output
  size : W.heap.size ≤ W'.heap.size
  obj : ∀ x ∈ N, W'.heap[x.1]? = some x.2
  new : ∀ x ∈ N, x.1 ∈ O ∨ W.heap.size ≤ x.1
  nd : N.Pairwise (fun x y => x.1 ≠ y.1)
  far : ∀ b, b < W.heap.size → b ∉ O → W'.heap[b]? = W.heap[b]?
/-- The objects lie there, apart. -/
structure Has (R : Objs) (W : World) : Prop where
  obj : ∀ x ∈ R, W.heap[x.1]? = some x.2
  nd : R.Pairwise (fun x y => x.1 ≠ y.1)
/-- What is read stands as c has it. -/
structure HasC (rd : Wr) (c : Cnc) (w : World) : Prop where
  sat : ∀ x ∈ rd, x.2.sat (c x.1)
  has : Has (rd.flatMap fun x => c x.1) w

def look : Wr → Nat → Option Ent
  | [], _ => none
  | (q, x) :: r, p => if q = p then some x else look r p
theorem look_mem : ∀ {w : Wr} {p : Nat} {x : Ent}, look w p = some x → (p, x) ∈ w
  | (q, y) :: r, p, x, h => by
    unfold look at h
    split at h
    · rename_i e
      subst e
      cases h
      exact List.mem_cons_self ..
    · exact List.mem_cons_of_mem _ (look_mem h)
theorem look_none : ∀ {w : Wr} {p : Nat}, look w p = none → ∀ x, (p, x) ∉ w
  | [], _, _, _, h => by simp at h
  | (q, y) :: r, p, h, x, hm => by
    unfold look at h
    split at h
    · cases h
    · rename_i e
      rcases List.mem_cons.1 hm with e2 | hm
      · cases e2; exact e rfl
      · exact look_none h x hm
def updF (f : Mem) (w : Wr) : Mem := fun p => match look w p with | some x => some x | none => f p
def updC (c : Cnc) (w : Wr) (d : Cnc) : Cnc := fun p => match look w p with | some _ => d p | none => c p

section
variable {m : Nat} {R : List Nat} {base W W' : World} {f : Mem} {c d : Cnc}
theorem OwnF.lt (h : OwnF R base m f c W) {p : Nat} (hp : p < m) {z : Nat × Obj} (hz : z ∈ c p) : z.1 < W.heap.size := (Array.getElem?_eq_some_iff.1 (h.obj p hp z hz)).1
theorem pw_apart {v : Wr} (h : (v.flatMap fun x => d x.1).Pairwise (fun x y => x.1 ≠ y.1)) {p q : Nat} {x y : Ent} (hp : (p, x) ∈ v) (hq : (q, y) ∈ v) (hne : p ≠ q) : ∀ z ∈ d p, ∀ u ∈ d q, z.1 ≠ u.1 := by
  intro z hz u hu
  rw [List.pairwise_flatMap] at h
  obtain ⟨i, hi, ei⟩ := List.getElem_of_mem hp
  obtain ⟨j, hj, ej⟩ := List.getElem_of_mem hq
  have hij : i ≠ j := fun e => by
    subst e
    rw [ei] at ej
    cases ej
    exact hne rfl
  have hp := List.pairwise_iff_getElem.1 h.2
  rcases Nat.lt_or_gt_of_ne hij with l | l
  · have := hp i j hi hj l
    rw [ei, ej] at this
    exact this z hz u hu
  · have := hp j i hj hi l
    rw [ei, ej] at this
    exact Ne.symm (this u hu z hz)
theorem pw_inn {v : Wr} (h : (v.flatMap fun x => d x.1).Pairwise (fun x y => x.1 ≠ y.1)) {p : Nat} {x : Ent} (hp : (p, x) ∈ v) : (d p).Pairwise (fun x y => x.1 ≠ y.1) := by
  rw [List.pairwise_flatMap] at h
  exact h.1 (p, x) hp
theorem OwnF.step (h : OwnF R base m f c W) {O : List Nat} {v : Wr} (hsat : ∀ x ∈ v, x.2.sat (d x.1)) (hs : Step O (v.flatMap fun x => d x.1) W W') (hO : ∀ b ∈ O, ∃ p, p < m ∧ (∃ x, (p, x) ∈ v) ∧ ∃ z ∈ c p, z.1 = b) : OwnF R base m (updF f v) (updC c v d) W' := by
  have cas : ∀ p, ((∃ x, look v p = some x ∧ (p, x) ∈ v) ∧ updC c v d p = d p) ∨ (look v p = none ∧ (∀ y, (p, y) ∉ v) ∧ updC c v d p = c p ∧ updF f v p = f p) := by
    intro p
    cases hl : look v p with
    | some x => exact .inl ⟨⟨x, rfl, look_mem hl⟩, by unfold updC; rw [hl]⟩
    | none => exact .inr ⟨rfl, fun y hm => look_none hl y hm, by unfold updC; rw [hl], by unfold updF; rw [hl]⟩
  have neO : ∀ {q : Nat}, q < m → (∀ z, (q, z) ∉ v) → ∀ y ∈ c q, y.1 ∉ O := by
    intro q hq hn y hy hm
    obtain ⟨p, hp, ⟨x, hx⟩, z, hz, e⟩ := hO _ hm
    have hpq : p ≠ q := fun e => by subst e; exact hn _ hx
    exact h.nd p q hp hq hpq z hz y hy e
  have inN : ∀ {p : Nat} {x : Ent}, (p, x) ∈ v → ∀ z ∈ d p, z ∈ v.flatMap fun x => d x.1 := fun {p x} hm z hz => List.mem_flatMap.2 ⟨(p, x), hm, hz⟩
  have one : ∀ p q, p < m → q < m → ∀ x, (p, x) ∈ v → (∀ z, (q, z) ∉ v) → ∀ z ∈ d p, ∀ u ∈ c q, z.1 ≠ u.1 := by
    intro p q hp hq x hx hn z hz u hu e
    rcases hs.new z (inN hx z hz) with h1 | h1
    · rw [e] at h1
      exact neO hq hn u hu h1
    · have := h.lt hq hu
      omega
  refine ⟨?_, ?_, ?_, ?_, ?_, ?_, hs.os.trans h.os, hs.tape.trans h.tape, hs.output.trans h.output, Nat.le_trans h.size hs.size, ?_⟩
  · intro p hp x hx
    rcases cas p with ⟨⟨y, hl, hm⟩, e⟩ | ⟨hl, hn, e, e2⟩
    · unfold updF at hx
      rw [hl] at hx
      cases hx
      rw [e]
      exact hsat _ hm
    · rw [e]
      rw [e2] at hx
      exact h.sat p hp x hx
  · intro p hp hx
    rcases cas p with ⟨⟨y, hl, hm⟩, e⟩ | ⟨hl, hn, e, e2⟩
    · unfold updF at hx
      rw [hl] at hx
      cases hx
    · rw [e]
      rw [e2] at hx
      exact h.nil p hp hx
  · intro p hp z hz
    rcases cas p with ⟨⟨y, hl, hm⟩, e⟩ | ⟨hl, hn, e, e2⟩
    · rw [e] at hz
      exact hs.obj z (inN hm z hz)
    · rw [e] at hz
      exact (hs.far _ (h.lt hp hz) (neO hp hn z hz)).trans (h.obj p hp z hz)
  · intro p hp
    rcases cas p with ⟨⟨y, hl, hm⟩, e⟩ | ⟨hl, hn, e, e2⟩
    · rw [e]; exact pw_inn hs.nd hm
    · rw [e]; exact h.inn p hp
  · intro p q hp hq hne z hz u hu
    rcases cas p with ⟨⟨y, hl, hm⟩, e⟩ | ⟨hl, hn, e, e2⟩
    · rw [e] at hz
      rcases cas q with ⟨⟨y', hl', hm'⟩, e'⟩ | ⟨hl', hn', e', e2'⟩
      · rw [e'] at hu
        exact pw_apart hs.nd hm hm' hne z hz u hu
      · rw [e'] at hu
        exact one p q hp hq y hm hn' z hz u hu
    · rw [e] at hz
      rcases cas q with ⟨⟨y', hl', hm'⟩, e'⟩ | ⟨hl', hn', e', e2'⟩
      · rw [e'] at hu
        exact Ne.symm (one q p hq hp y' hm' hn u hu z hz)
      · rw [e'] at hu
        exact h.nd p q hp hq hne z hz u hu
  · intro p hp z hz
    rcases cas p with ⟨⟨y, hl, hm⟩, e⟩ | ⟨hl, hn, e, e2⟩
    · rw [e] at hz
      rcases hs.new z (inN hm z hz) with h3 | h3
      · obtain ⟨q, hq, _, u, hu, e3⟩ := hO _ h3
        rw [← e3]
        exact h.lo q hq u hu
      · exact .inr (Nat.le_trans h.size h3)
    · rw [e] at hz
      exact h.lo p hp z hz
  · intro b hb hn
    refine (hs.far b (Nat.lt_of_lt_of_le hb h.size) fun hm => ?_).trans (h.far b hb hn)
    obtain ⟨q, hq, _, u, hu, e3⟩ := hO _ hm
    rcases h.lo q hq u hu with h1 | h1
    · rw [e3] at h1; exact hn h1
    · rw [e3] at h1; omega
theorem OwnF.congr {f' : Mem} (h : OwnF R base m f c W) (e : ∀ p, p < m → f p = f' p) : OwnF R base m f' c W :=
  ⟨fun p hp x hx => h.sat p hp x ((e p hp).trans hx), fun p hp hx => h.nil p hp ((e p hp).trans hx), h.obj, h.inn, h.nd, h.lo, h.os, h.tape, h.output, h.size, h.far⟩
end

/-- What lies at the place p, of the operations that S tells, the first n. -/
def contAt (M0 : Ents) (wr : Nat → Wr) (S : Nat → Bool) (p : Nat) : Nat → Option Ent
  | 0 => M0[p]?
  | j + 1 => match S j, look (wr j) p with
    | true, some x => some x
    | _, _ => contAt M0 wr S p j
section
variable {M0 : Ents} {wr wr' : Nat → Wr} {S S' : Nat → Bool} {p : Nat}
theorem contAt_skip {j : Nat} (h : S j = false ∨ look (wr j) p = none) : contAt M0 wr S p (j + 1) = contAt M0 wr S p j := by
  rw [contAt.eq_2]
  rcases h with h | h
  · rw [h]
  · rw [h]; cases S j <;> rfl
theorem contAt_congr {N : Nat} (h : ∀ j, j < N → S j = S' j ∧ (S j = true → look (wr j) p = look (wr' j) p)) : contAt M0 wr S p N = contAt M0 wr' S' p N := by
  induction N with
  | zero => rfl
  | succ j ih =>
    have ih := ih fun i hi => h i (by omega)
    obtain ⟨h1, h2⟩ := h j (by omega)
    rw [contAt.eq_2, contAt.eq_2, ← h1, ih]
    cases hS : S j with
    | false => rfl
    | true => rw [h2 hS]
theorem contAt_read {k N : Nat} (hk : k ≤ N) (hlo : ∀ j, j < k → (look (wr j) p).isSome = true → S j = true) (hhi : ∀ j, k ≤ j → j < N → (look (wr j) p).isSome = true → S j = false) : contAt M0 wr S p N = contAt M0 wr (fun _ => true) p k := by
  have h1 : ∀ d, k + d ≤ N → contAt M0 wr S p (k + d) = contAt M0 wr S p k := by
    intro d
    induction d with
    | zero => intro _; rfl
    | succ d ih =>
      intro hd
      rw [show k + (d + 1) = (k + d) + 1 from rfl, contAt_skip, ih (by omega)]
      cases hl : look (wr (k + d)) p with
      | none => exact .inr rfl
      | some x => exact .inl (hhi _ (by omega) (by omega) (by rw [hl]; rfl))
  have h2 : ∀ i, i ≤ k → contAt M0 wr S p i = contAt M0 wr (fun _ => true) p i := by
    intro i
    induction i with
    | zero => intro _; rfl
    | succ i ih =>
      intro hi
      rw [contAt.eq_2, contAt.eq_2, ih (by omega)]
      cases hl : look (wr i) p with
      | none => cases S i <;> rfl
      | some x => rw [hlo i (by omega) (by rw [hl]; rfl)]
  have := h1 (N - k) (by omega)
  rw [show k + (N - k) = N by omega] at this
  rw [this, h2 k (Nat.le_refl _)]
theorem contAt_write {k N : Nat} (hk : k < N) (hS : S k = false) (hhi : (look (wr k) p).isSome = true → ∀ j, k < j → j < N → (look (wr j) p).isSome = true → S j = false) :
    contAt M0 wr (fun j => if j = k then true else S j) p N = match look (wr k) p with | some x => some x | none => contAt M0 wr S p N := by
  have h0 : ∀ i, i ≤ k → contAt M0 wr (fun j => if j = k then true else S j) p i = contAt M0 wr S p i := fun i hi => contAt_congr fun j hj => ⟨by rw [if_neg (by omega)], fun _ => rfl⟩
  have h1 : ∀ d, k + 1 + d ≤ N → contAt M0 wr (fun j => if j = k then true else S j) p (k + 1 + d) = match look (wr k) p with | some x => some x | none => contAt M0 wr S p (k + 1 + d) := by
    intro d
    induction d with
    | zero =>
      intro _
      rw [Nat.add_zero, contAt.eq_2, if_pos rfl, h0 k (Nat.le_refl _), contAt_skip (S := S) (.inl hS)]
      cases look (wr k) p <;> rfl
    | succ d ih =>
      intro hd
      rw [show k + 1 + (d + 1) = (k + 1 + d) + 1 from rfl, contAt.eq_2, contAt.eq_2, ih (by omega), if_neg (by omega)]
      cases hl : look (wr k) p with
      | none => cases S (k + 1 + d) <;> cases look (wr (k + 1 + d)) p <;> rfl
      | some x =>
        cases hS2 : S (k + 1 + d) with
        | false => rfl
        | true =>
          cases hl2 : look (wr (k + 1 + d)) p with
          | none => rfl
          | some y =>
            have := hhi (by rw [hl]; rfl) (k + 1 + d) (by omega) (by omega) (by rw [hl2]; rfl)
            rw [hS2] at this
            cases this
  have := h1 (N - (k + 1)) (by omega)
  rwa [show k + 1 + (N - (k + 1)) = N by omega] at this
end
end Go.Proofs.Ytdglhppcfdpcaaa.E
namespace Go.Proofs.Ytdglhppcfdpcaaa.E
open Go Go.RowKit Go.Shelf

/-- What is told of a region: values, what is read, written and made, conditions, and what waits for what. -/
structure Told where
  val : Envs → Nat → Env → Value
  rd : Envs → Nat → Wr
  wt : Envs → Nat → Env → Wr
  ob : Nat → List Nat
  cds : Nat → List (Nat × Bool)
  D : Nat → List Nat
  L0 : Ents
  m : Nat
def Told.vs (t : Told) (η : Envs) (k : Nat) : Value := t.val η k (η k)
def Told.wr (t : Told) (η : Envs) (k : Nat) : Wr := t.wt η k (η k)
def Told.Hold (t : Told) (η : Envs) (k : Nat) : Prop := ∀ c ∈ t.cds k, t.vs η c.1 = .bool c.2
def Told.Is (t : Told) (η : Envs) (i : Nat) (x : Value) : Prop := (t.Hold η i ∧ x = t.vs η i) ∨ (¬ t.Hold η i ∧ x = undef)
def Told.at (t : Told) (η : Envs) (p k : Nat) : Option Ent := contAt t.L0 (t.wr η) (fun _ => true) p k
def upd (η : Envs) (k : Nat) (E : Env) : Envs := fun j => if j = k then E else η j
def mask (D : List Nat) (η : Envs) : Envs := fun j => if D.contains j then η j else Env.zero
theorem mask_upd {D : List Nat} {η : Envs} {k : Nat} {E : Env} (h : k ∉ D) : mask D (upd η k E) = mask D η := by
  funext j
  unfold mask upd
  by_cases hj : D.contains j = true
  · have hm : j ∈ D := by simpa using hj
    have hne : j ≠ k := fun e => by subst e; exact h hm
    rw [if_pos hj, if_pos hj, if_neg hne]
  · rw [if_neg hj, if_neg hj]

section
variable (F : Fence) (n : Nat) (P : Program) (L : List Oper) (Q : Exit → Act → World → Prop) (a : Act) (t : Told)
/-- One operation, whatever the others made. -/
structure Acts (η : Envs) (k : Nat) (o : Oper) : Prop where
  out : ∀ (xs : Nat → Value) (w' : World) (c : Cnc), (∀ i ∈ t.D k, t.Is η i (xs i)) → (∀ i, i < L.length → (i = k ∨ k ∈ t.D i) → xs i = firstX L a i) → HasC (t.rd η k) c w' → t.Hold η k →
    ∀ K : Value → World → Prop, (∀ E (d : Cnc) w'', (∀ x ∈ t.wt η k E, x.2.sat (d x.1)) → Step ((t.ob k).flatMap fun p => ids (c p)) ((t.wt η k E).flatMap fun x => d x.1) w' w'' → K (t.val η k E) w'') →
      o.wpIn F n P (putsH xs L 0 a) w' (fun a'' w'' => ∃ v, a'' = (putsH xs L 0 a).put o.dst v ∧ K v w'') Q
/-- The guard is the last of the conditions. -/
def guardOk (k : Nat) (o : Oper) (η : Envs) : Prop := match o.guard with
  | none => t.cds k = []
  | some (j, b) => t.cds k = t.cds j ++ [(j, b)] ∧ j ∈ t.D k ∧ (∃ E, t.vs η j = .bool E) ∧ (∃ d, (L.toArray[j]?).bind (·.dst) = some d ∧ whoPuts d L 0 = some j ∧ Nat.blt d a.tmps.size = true)
def free (η : Envs) (k p : Nat) : Prop := p < t.m ∧ ∀ j, j < L.length → j ≠ k → (look (t.wr η j) p).isSome = true → (j < k ∧ j ∈ t.D k) ∨ (k < j ∧ k ∈ t.D j)
/-- All that the walk of a region asks. -/
structure ReOk : Prop where
  acts : ∀ η k o, L[k]? = some o → Acts F n P L Q a t η k o
  guard : ∀ η k o, L[k]? = some o → guardOk L a t k o η
  cin : ∀ k, k < L.length → ∀ c ∈ t.cds k, c.1 ∈ t.D k
  still : ∀ η k, k < L.length → t.cds k ≠ [] → t.wr η k = [] ∨ t.Hold η k
  rdf : ∀ η k, k < L.length → ∀ x ∈ t.rd η k, free L t η k x.1 ∧ t.at η x.1 k = some x.2
  rdn : ∀ η k, k < L.length → ((t.rd η k).map (·.1)).Nodup
  wrf : ∀ η k, k < L.length → ∀ x ∈ t.wr η k, free L t η k x.1
  obf : ∀ η k, k < L.length → ∀ p ∈ t.ob k, ∃ x, (p, x) ∈ t.wr η k
  mval : ∀ η k, k < L.length → t.val (mask (t.D k) η) k = t.val η k
  mwt : ∀ η k, k < L.length → t.wt (mask (t.D k) η) k = t.wt η k
end
section
variable {F : Fence} {n : Nat} {P : Program} {L : List Oper} {Q : Exit → Act → World → Prop} {a : Act} {t : Told}
theorem ReOk.val_upd (h : ReOk F n P L Q a t) {η : Envs} {i k : Nat} {E : Env} (hi : i < L.length) (hk : k ∉ t.D i) : t.val (upd η k E) i = t.val η i := by
  rw [← h.mval (upd η k E) i hi, mask_upd hk, h.mval η i hi]
theorem ReOk.wt_upd (h : ReOk F n P L Q a t) {η : Envs} {i k : Nat} {E : Env} (hi : i < L.length) (hk : k ∉ t.D i) : t.wt (upd η k E) i = t.wt η i := by
  rw [← h.mwt (upd η k E) i hi, mask_upd hk, h.mwt η i hi]
theorem ReOk.vs_upd (h : ReOk F n P L Q a t) {η : Envs} {i k : Nat} {E : Env} (hi : i < L.length) (hk : k ∉ t.D i) (hne : i ≠ k) : t.vs (upd η k E) i = t.vs η i := by
  unfold Told.vs
  rw [h.val_upd hi hk, show upd η k E i = η i from if_neg hne]
theorem ReOk.wr_upd (h : ReOk F n P L Q a t) {η : Envs} {i k : Nat} {E : Env} (hi : i < L.length) (hk : k ∉ t.D i) (hne : i ≠ k) : t.wr (upd η k E) i = t.wr η i := by
  unfold Told.wr
  rw [h.wt_upd hi hk, show upd η k E i = η i from if_neg hne]

/-- What holds when the operations of S are done. -/
def InvR (L : List Oper) (a : Act) (t : Told) (R : List Nat) (base : World) (S : Nat → Bool) (xs : Nat → Value) (w : World) : Prop :=
  ∃ (η : Envs) (c : Cnc), (∀ i, i < L.length → S i = true → t.Is η i (xs i)) ∧ (∀ i, i < L.length → S i = false → xs i = firstX L a i) ∧ OwnF R base t.m (fun p => contAt t.L0 (t.wr η) S p L.length) c w

theorem re_step (h : ReOk F n P L Q a t) {R : List Nat} {base : World} {S : Nat → Bool} {xs : Nat → Value} {w' : World} {k : Nat} {o : Oper} (hk : k < L.length) (ho : L[k]? = some o)
    (hS : S k = false) (hD : ∀ j ∈ t.D k, j < L.length ∧ S j = true) (hcl : ∀ i, i < L.length → S i = true → ∀ j ∈ t.D i, j < L.length ∧ S j = true) (inv : InvR L a t R base S xs w')
    (K : Value → World → Prop) (hK : ∀ v w'', InvR L a t R base (fun j => if j = k then true else S j) (fun j => if j = k then v else xs j) w'' → K v w'') (hF : Fence.free F) :
    if Region.wanted o (yielded L.toArray (putsH xs L 0 a).tmps) = true then o.wpIn F n P (putsH xs L 0 a) w' (fun a'' w'' => ∃ v, a'' = (putsH xs L 0 a).put o.dst v ∧ K v w'') Q
    else (∀ f, o.about P w' (putsH xs L 0 a).eval = some f → F.fn f) ∧ K undef w' := by
  obtain ⟨η, c, hx, hfx, hO⟩ := inv
  have hkD : k ∉ t.D k := fun hm => by have := (hD k hm).2; rw [hS] at this; cases this
  have hkDi : ∀ i, i < L.length → S i = true → k ∉ t.D i := fun i hi hs hm => by have := (hcl i hi hs k hm).2; rw [hS] at this; cases this
  have hne : ∀ i, S i = true → i ≠ k := fun i hs e => by subst e; rw [hS] at hs; cases hs
  -- a place that is free for k holds what the text says
  have rd : ∀ (η' : Envs) (p : Nat), free L t η' k p → contAt t.L0 (t.wr η') S p L.length = t.at η' p k := by
    intro η' p hf
    refine contAt_read (Nat.le_of_lt hk) (fun j hj hl => ?_) (fun j hj hjN hl => ?_)
    · rcases hf.2 j (by omega) (by omega) hl with ⟨_, h2⟩ | ⟨h1, _⟩
      · exact (hD j h2).2
      · omega
    · by_cases e : j = k
      · subst e; exact hS
      · rcases hf.2 j hjN e hl with ⟨h1, _⟩ | ⟨_, h2⟩
        · omega
        · cases hsj : S j with
          | false => rfl
          | true => exact absurd h2 (hkDi j hjN hsj)
  have hg := h.guard η k o ho
  -- the operation is done
  have done : Told.Hold t η k → o.wpIn F n P (putsH xs L 0 a) w' (fun a'' w'' => ∃ v, a'' = (putsH xs L 0 a).put o.dst v ∧ K v w'') Q := by
    intro hh
    refine (h.acts η k o ho).out xs w' c (fun i hi => hx i (hD i hi).1 (hD i hi).2) (fun i hi hik => ?_) ?_ hh _ ?_
    · refine hfx i hi ?_
      rcases hik with rfl | hm
      · exact hS
      · cases hsi : S i with
        | false => rfl
        | true => exact absurd hm (hkDi i hi hsi)
    · refine ⟨fun x hx => ?_, ⟨fun z hz => ?_, ?_⟩⟩
      · obtain ⟨h1, h2⟩ := h.rdf η k hk x hx
        exact hO.sat x.1 h1.1 x.2 ((rd η x.1 h1).trans h2)
      · obtain ⟨x, hx, hz⟩ := List.mem_flatMap.1 hz
        obtain ⟨h1, h2⟩ := h.rdf η k hk x hx
        exact hO.obj x.1 h1.1 z hz
      · rw [List.pairwise_flatMap]
        refine ⟨fun x hx => hO.inn x.1 (h.rdf η k hk x hx).1.1, ?_⟩
        rw [List.pairwise_iff_getElem]
        intro i j hi hj hij z hz u hu
        obtain ⟨h1, h2⟩ := h.rdf η k hk _ (List.getElem_mem hi)
        obtain ⟨k1, k2⟩ := h.rdf η k hk _ (List.getElem_mem hj)
        refine hO.nd _ _ h1.1 k1.1 ?_ z hz u hu
        have hnd := h.rdn η k hk
        unfold List.Nodup at hnd
        rw [List.pairwise_map, List.pairwise_iff_getElem] at hnd
        exact hnd i j hi hj hij
    · intro E d w'' hsat hst
      refine hK _ _ ⟨upd η k E, updC c (t.wt η k E) d, fun i hi hs => ?_, fun i hi hs => ?_, ?_⟩
      · by_cases e : i = k
        · subst e
          simp only [if_true]
          refine .inl ⟨fun c hc => ?_, ?_⟩
          · have hcd := h.cin i hk c hc
            have hcs := hD c.1 hcd
            rw [h.vs_upd hcs.1 (hkDi c.1 hcs.1 hcs.2) (hne _ hcs.2)]
            exact hh c hc
          · unfold Told.vs
            rw [h.val_upd hk hkD, show upd η i E i = E from if_pos rfl]
        · simp only [if_neg e] at hs ⊢
          have hv := h.vs_upd (η := η) (E := E) hi (hkDi i hi hs) e
          have hcc : Told.Hold t (upd η k E) i ↔ Told.Hold t η i := by
            have heq : ∀ c ∈ t.cds i, t.vs (upd η k E) c.1 = t.vs η c.1 := fun c hc => by
              have hcd := h.cin i hi c hc
              have hcs := hcl i hi hs c.1 hcd
              exact h.vs_upd hcs.1 (hkDi c.1 hcs.1 hcs.2) (hne _ hcs.2)
            exact ⟨fun hh c hc => (heq c hc).symm.trans (hh c hc), fun hh c hc => (heq c hc).trans (hh c hc)⟩
          rcases hx i hi hs with ⟨h1, h2⟩ | ⟨h1, h2⟩
          · exact .inl ⟨hcc.2 h1, by rw [hv]; exact h2⟩
          · exact .inr ⟨fun h3 => h1 (hcc.1 h3), h2⟩
      · by_cases e : i = k
        · subst e; simp at hs
        · simp only [if_neg e] at hs ⊢
          exact hfx i hi hs
      · have hcg : ∀ p, contAt t.L0 (t.wr (upd η k E)) S p L.length = contAt t.L0 (t.wr η) S p L.length := fun p => contAt_congr fun j hj => ⟨rfl, fun hs => by rw [h.wr_upd hj (hkDi j hj hs) (hne j hs)]⟩
        have hwr : t.wr (upd η k E) k = t.wt η k E := by
          unfold Told.wr
          rw [h.wt_upd hk hkD, show upd η k E k = E from if_pos rfl]
        have hfr : ∀ p, (look (t.wr (upd η k E) k) p).isSome = true → free L t (upd η k E) k p := by
          intro p hp
          obtain ⟨x, hx⟩ := Option.isSome_iff_exists.1 hp
          exact h.wrf (upd η k E) k hk _ (look_mem hx)
        have hf : (fun p => contAt t.L0 (t.wr (upd η k E)) (fun j => if j = k then true else S j) p L.length) = updF (fun p => contAt t.L0 (t.wr η) S p L.length) (t.wt η k E) := by
          funext p
          rw [contAt_write hk hS (fun hl j hkj hjN hlj => ?_), hwr, hcg]
          · rfl
          · rcases (hfr p hl).2 j hjN (by omega) hlj with ⟨h1, _⟩ | ⟨_, h2⟩
            · omega
            · cases hsj : S j with
              | false => rfl
              | true => exact absurd h2 (hkDi j hjN hsj)
        rw [hf]
        refine hO.step hsat hst fun b hb => ?_
        obtain ⟨p, hp, hb⟩ := List.mem_flatMap.1 hb
        obtain ⟨z, hz, e⟩ := List.mem_map.1 hb
        obtain ⟨x, hx⟩ := h.obf (upd η k E) k hk p hp
        have h1 := h.wrf (upd η k E) k hk _ hx
        exact ⟨p, h1.1, ⟨x, by rw [← hwr]; exact hx⟩, z, hz, e⟩
  -- it is not done
  have skip : ¬ Told.Hold t η k → t.cds k ≠ [] → K undef w' := by
    intro hn hc
    have hw := (h.still η k hk hc).resolve_right hn
    refine hK _ _ ⟨η, c, fun i hi hs => ?_, fun i hi hs => ?_, ?_⟩
    · by_cases e : i = k
      · subst e
        simp only [if_true]
        exact .inr ⟨hn, rfl⟩
      · simp only [if_neg e] at hs ⊢
        exact hx i hi hs
    · by_cases e : i = k
      · subst e; simp at hs
      · simp only [if_neg e] at hs ⊢
        exact hfx i hi hs
    · have hf : (fun p => contAt t.L0 (t.wr η) (fun j => if j = k then true else S j) p L.length) = fun p => contAt t.L0 (t.wr η) S p L.length := by
        funext p
        rw [contAt_write hk hS (fun hl => by rw [hw] at hl; cases hl), hw]
        rfl
      rw [hf]
      exact hO
  unfold guardOk at hg
  cases hgd : o.guard with
  | none =>
    rw [hgd] at hg
    simp only at hg
    rw [if_pos (by simp [Region.wanted, hgd])]
    exact done (fun c hc => by rw [hg] at hc; simp at hc)
  | some jb =>
    obtain ⟨j, b⟩ := jb
    rw [hgd] at hg
    simp only at hg
    obtain ⟨hc, hjD, ⟨E, hE⟩, d, hd, hw, hs⟩ := hg
    have hjx := hx j (hD j hjD).1 (hD j hjD).2
    have hlt : L.take L.length = L := List.take_length
    rcases hjx with ⟨h1, h2⟩ | ⟨h1, h2⟩
    · rw [hE] at h2
      have hwt := wanted_of (L := L) (N := L.length) (a := a) (xs := xs) hgd hd (by rw [hlt]; exact hw) hs h2
      rw [hlt] at hwt
      by_cases e : E = b
      · subst e
        rw [hwt, if_pos (by cases E <;> rfl)]
        refine done fun c hcm => ?_
        rw [hc] at hcm
        rcases List.mem_append.1 hcm with h3 | h3
        · exact h1 c h3
        · obtain rfl := List.mem_singleton.1 h3
          exact hE
      · rw [hwt, if_neg (by cases E <;> cases b <;> simp_all)]
        refine ⟨fun f _ => hF.2 f, skip (fun hh => e ?_) (by rw [hc]; simp)⟩
        have := hh (j, b) (by rw [hc]; simp)
        rw [hE] at this
        exact Value.bool.inj this
    · have hwt := wanted_undef (L := L) (N := L.length) (a := a) (xs := xs) hgd hd (by rw [hlt]; exact hw) hs h2
      rw [hlt] at hwt
      rw [hwt, if_neg (by decide)]
      refine ⟨fun f _ => hF.2 f, skip (fun hh => h1 fun c hcm => hh c (by rw [hc]; exact List.mem_append_left _ hcm)) (by rw [hc]; simp)⟩
end
end Go.Proofs.Ytdglhppcfdpcaaa.E
namespace Go.Proofs.Ytdglhppcfdpcaaa.E
open Go Go.RowKit Go.Shelf
section
variable {F : Fence} {n : Nat} {P : Program} {L : List Oper} {Q : Exit → Act → World → Prop} {a : Act} {t : Told} {R : List Nat} {base : World}
theorem InvR.congr {S S' : Nat → Bool} {xs xs' : Nat → Value} {w : World} (h : InvR L a t R base S xs w) (hs : ∀ i, i < L.length → S i = S' i) (hx : ∀ i, i < L.length → xs i = xs' i) : InvR L a t R base S' xs' w := by
  obtain ⟨η, c, h1, h2, h3⟩ := h
  refine ⟨η, c, fun i hi hS => by rw [← hx i hi]; exact h1 i hi (by rw [hs i hi]; exact hS), fun i hi hS => by rw [← hx i hi]; exact h2 i hi (by rw [hs i hi]; exact hS), ?_⟩
  have e : (fun p => contAt t.L0 (t.wr η) S' p L.length) = fun p => contAt t.L0 (t.wr η) S p L.length := by
    funext p
    exact (contAt_congr fun j hj => ⟨hs j hj, fun _ => rfl⟩).symm
  rw [e]
  exact h3
theorem InvR.drew {S : Nat → Bool} {xs : Nat → Value} {w : World} (h : InvR L a t R base S xs w) : InvR L a t R base S xs w.drew := by
  obtain ⟨η, c, h1, h2, h3⟩ := h
  exact ⟨η, c, h1, h2, h3.sat, h3.nil, h3.obj, h3.inn, h3.nd, h3.lo, h3.os, h3.tape, h3.output, h3.size, h3.far⟩
theorem wpAnyIn_re (h : ReOk F n P L Q a t) (hF : Fence.free F) (hc : Region.chainB .any L.toArray L.length = true) (hb : backB .any L.toArray L.length = true) (hb0 : backB .any L.toArray 0 = true) (hsl : slotsB L = true) (hD : depsB .any L.toArray L.length t.D = true)
    (hend : ∀ xs w', InvR L a t R base (fun _ => true) xs w' → Q .normal (putsH xs L 0 a) w') :
    ∀ (c fuel : Nat) (listed : Array Bool) (xs : Nat → Value) (w' : World), cntH listed L.length = c → c ≤ fuel → HeadInv .any L.toArray L.length listed →
      (∀ i, i < L.length → listed.getD i false = true → ∀ j ∈ t.D i, listed.getD j false = true) → InvR L a t R base (fun i => listed.getD i false) xs w' → wpAnyIn F n P .any L.toArray Q fuel listed (putsH xs L 0 a) w'
  | 0, fuel, listed, xs, w', hcnt, hf, inv, hk, hI => by
    have hall := cntH_zero L.length hcnt
    have hall2 : ∀ i, i < L.length → listed.getD i false = true := by
      intro i hi
      have h2 : i < listed.size := by rw [inv.size, List.size_toArray]; omega
      have := hall i hi
      simp [h2] at this ⊢
      exact this
    refine wpAnyIn_chain hc hb 0 L.length fuel listed _ w' (by rw [List.size_toArray]; omega) (Nat.le_refl _) (by omega) inv.size hall hall2 inv.tail ?_
    have e : L.toArray.toList.drop L.length = [] := by simp
    rw [e]
    exact hend xs w' (hI.congr (fun i hi => hall2 i hi) (fun _ _ => rfl))
  | c + 1, fuel, listed, xs, w', hcnt, hf, inv, hk, hI => by
    obtain ⟨f, rfl⟩ : ∃ f, fuel = f + 1 := ⟨fuel - 1, by omega⟩
    have hun : ∃ i, i < L.length ∧ listed.getD i true = false := by
      apply Classical.byContradiction
      intro hno
      have hall : ∀ i, i < L.length → listed.getD i true = true := fun i hi => by
        cases hl : listed.getD i true with
        | true => rfl
        | false => exact (hno ⟨i, hi, hl⟩).elim
      have : ∀ k, k ≤ L.length → cntH listed k = 0 := by
        intro k
        induction k with
        | zero => intro _; rfl
        | succ k ih => intro h; unfold cntH; rw [ih (by omega), hall k (by omega)]; rfl
      rw [this L.length (Nat.le_refl _)] at hcnt
      omega
    obtain ⟨i0, hi0, hu0⟩ := hun
    have some : Region.ready .any L.toArray listed = [] → ∀ d i, i = d → i < L.length → listed.getD i true = true := by
      intro hnil d
      induction d using Nat.strongRecOn with
      | _ d ih =>
        rintro i rfl hi
        cases hl : listed.getD i true with
        | true => rfl
        | false =>
          exfalso
          have hilt : i < L.toArray.size := by rw [List.size_toArray]; omega
          have hok : L.toArray[i]? = some L.toArray[i] := Array.getElem?_eq_getElem hilt
          have hB := List.all_eq_true.1 hb0 i (List.mem_range.2 hilt)
          rw [hok] at hB
          simp only [Bool.or_eq_true, decide_eq_true_eq, Option.map_some, Option.getD_some, Nat.not_lt_zero, false_or] at hB
          have : i ∈ Region.ready .any L.toArray listed := mem_ready.2 ⟨hl, _, hok, fun e he hbd => by
            have h2 := Array.all_eq_true'.1 hB e he
            rw [hbd] at h2
            have h3 : e.on < i := by simpa using h2
            have h4 := ih e.on h3 e.on rfl (by omega)
            have h5 : e.on < listed.size := by rw [inv.size, List.size_toArray]; omega
            rw [Array.getD_eq_getD_getElem?, Array.getElem?_eq_getElem h5] at h4 ⊢
            exact h4⟩
          rw [hnil] at this; cases this
    refine ⟨fun hnil => (by have := some hnil i0 i0 rfl hi0; rw [hu0] at this; cases this), fun i hi => ?_⟩
    have hiN : i < L.length := by
      obtain ⟨_, o, ho, _⟩ := mem_ready.1 hi
      have := (Array.getElem?_eq_some_iff.1 ho).1
      rwa [List.size_toArray] at this
    obtain ⟨hl, o, ho, hall⟩ := mem_ready.1 hi
    have hol : L[i]? = Option.some o := by rw [← List.getElem?_toArray]; exact ho
    have hDi : ∀ j ∈ t.D i, j < L.length ∧ listed.getD j false = true := by
      intro j hj
      have h1 := List.all_eq_true.1 (List.all_eq_true.1 hD i (List.mem_range.2 hiN)) j hj
      rw [ho] at h1
      simp only [Option.map_some, Option.getD_some, Bool.and_eq_true, decide_eq_true_eq] at h1
      refine ⟨h1.1, ?_⟩
      obtain ⟨e, he, h2⟩ := Array.any_eq_true'.1 h1.2
      simp only [Bool.and_eq_true, Bool.or_eq_true, beq_iff_eq, decide_eq_true_eq] at h2
      have h3 := hall e he h2.1
      rcases h2.2 with h4 | ⟨h4, h5⟩
      · rw [← h4]; exact h3
      · exact hk e.on h4 h3 j (by simpa using h5)
    have hDlt : ∀ i, i < L.length → ∀ j ∈ t.D i, j < L.length := by
      intro i hi j hj
      have h1 := List.all_eq_true.1 (List.all_eq_true.1 hD i (List.mem_range.2 hi)) j hj
      simp only [Bool.and_eq_true, decide_eq_true_eq] at h1
      exact h1.1
    have hSi : listed.getD i false = false := by
      have h2 : i < listed.size := by rw [inv.size, List.size_toArray]; omega
      simp [h2] at hl ⊢
      exact hl
    have hst := re_step h (S := fun i => listed.getD i false) (xs := xs) (w' := w') (k := i) (o := o) hiN hol hSi (fun j hj => hDi j hj) (fun i' hi' hs j hj => ⟨hDlt i' hi' j hj, hk i' hi' hs j hj⟩) hI
      (fun v w'' => wpAnyIn F n P .any L.toArray Q f (listed.setIfInBounds i true) ((putsH xs L 0 a).put o.dst v) w'') (fun v w'' hI2 => by
        rw [putsH_set v _ 0 a i o hsl hol, Nat.zero_add]
        refine wpAnyIn_re h hF hc hb hb0 hsl hD hend c f _ _ w'' (by have := cntH_set hl L.length hiN; omega) (by omega) (inv.set hi hiN) ?_ (hI2.congr (fun j hj => ?_) (fun _ _ => rfl))
        · intro j hj hlj j' hj'
          by_cases e : j = i
          · subst e
            exact getD_set_true (hDi j' hj').2
          · rw [getD_set_ne false (Ne.symm e)] at hlj
            exact getD_set_true (hk j hj hlj j' hj')
        · show (if j = i then true else listed.getD j false) = _
          by_cases e : j = i
          · subst e
            have h2 : j < listed.size := by rw [inv.size, List.size_toArray]; omega
            simp [h2]
          · rw [if_neg e, getD_set_ne false (Ne.symm e)]) hF
    unfold wpOpIn
    simp only [ho]
    split
    · rename_i hw
      rw [if_pos hw] at hst
      exact Oper.wpIn_mono (fun a'' w'' ⟨v, e, h⟩ => by rw [e]; exact h) hst
    · rename_i hw
      rw [if_neg hw] at hst
      exact hst
theorem wpListIn_re (h : ReOk F n P L Q a t) (hF : Fence.free F) (hsl : slotsB L = true) (hD : ∀ k, k < L.length → ∀ j ∈ t.D k, j < k)
    (hend : ∀ xs w', InvR L a t R base (fun _ => true) xs w' → Q .normal (putsH xs L 0 a) w') :
    ∀ (d k : Nat) (xs : Nat → Value) (w' : World), k + d = L.length → InvR L a t R base (fun i => decide (i < k)) xs w' → wpListIn F n P L.toArray Q (L.drop k) (putsH xs L 0 a) w'
  | 0, k, xs, w', hk, hI => by
    obtain rfl : k = L.length := by omega
    rw [List.drop_length]
    exact hend xs w' (hI.congr (fun i hi => by simpa using hi) (fun _ _ => rfl))
  | d + 1, k, xs, w', hk, hI => by
    have hkl : k < L.length := by omega
    rw [List.drop_eq_getElem_cons hkl]
    have hol : L[k]? = some L[k] := List.getElem?_eq_getElem hkl
    have hst := re_step h (S := fun i => decide (i < k)) (xs := xs) (w' := w') (k := k) (o := L[k]) hkl hol (by simp) (fun j hj => ⟨by have := hD k hkl j hj; omega, by simpa using hD k hkl j hj⟩)
      (fun i hi hs j hj => by
        have h1 := hD i hi j hj
        have h2 : i < k := by simpa using hs
        exact ⟨by omega, by simp; omega⟩) hI
      (fun v w'' => wpListIn F n P L.toArray Q (L.drop (k + 1)) ((putsH xs L 0 a).put L[k].dst v) w'') (fun v w'' hI2 => by
        rw [putsH_set v _ 0 a k _ hsl hol, Nat.zero_add]
        refine wpListIn_re h hF hsl hD hend d (k + 1) _ w'' (by omega) (hI2.congr (fun j hj => ?_) (fun _ _ => rfl))
        show (if j = k then true else decide (j < k)) = decide (j < k + 1)
        by_cases e : j = k
        · subst e; simp
        · rw [if_neg e, decide_eq_decide]; omega) hF
    unfold wpListIn
    split
    · rename_i hw
      rw [if_pos hw] at hst
      exact Oper.wpIn_mono (fun a'' w'' ⟨v, e, h⟩ => by rw [e]; exact h) hst
    · rename_i hw
      rw [if_neg hw] at hst
      exact hst
/-- What must be seen of the region itself. -/
def shapeB (drawn : Bool) (L : List Oper) (D : Nat → List Nat) : Bool :=
  slotsB L && (if drawn then Region.chainB .any L.toArray L.length && backB .any L.toArray L.length && backB .any L.toArray 0 && depsB .any L.toArray L.length D
    else (List.range L.length).all fun k => (D k).all fun j => decide (j < k))
theorem wpIn_region_reOk {id : Nat} {drawn : Bool} {w : World} (hm : P.follows .mixedOrders = true) (h : ReOk F n P L Q a t) (hF : Fence.free F) (hs : shapeB drawn L t.D = true)
    (OW : Hid (OwnE R base t.L0 w)) (Le : Envs → Ents) (hLe : ∀ η, (List.range t.m).map (fun p => t.at η p L.length) = (Le η).map some)
    (hend : ∀ (η : Envs) (xs : Nat → Value) (w' : World), (∀ i, i < L.length → t.Is η i (xs i)) → Hid (OwnE R base (Le η) w') → Q .normal (putsH xs L 0 a) w') : (Code.region id L.toArray drawn).wpIn F n P Q a w := by
  have hend2 : ∀ xs w', InvR L a t R base (fun _ => true) xs w' → Q .normal (putsH xs L 0 a) w' := by
    intro xs w' ⟨η, c, h1, _, h3⟩
    refine hend η xs w' (fun i hi => h1 i hi rfl) ?_
    have hl : (Le η).length = t.m := by
      have := congrArg List.length (hLe η)
      simpa using this.symm
    have hat : ∀ p, p < t.m → t.at η p L.length = (Le η)[p]? := by
      intro p hp
      have := congrArg (fun l => l[p]?) (hLe η)
      simp only [List.getElem?_map, List.getElem?_range hp, Option.map_some] at this
      cases hq : (Le η)[p]? with
      | none => rw [hq] at this; cases this
      | some x => rw [hq] at this; simpa using this
    exact Lib.hid ⟨c, by rw [hl]; exact h3.congr hat⟩
  have h0 : putsH (firstX L a) L 0 a = a := putsH_first _ 0 a fun i o d ho hd => by
    unfold firstX
    rw [Nat.zero_add, ho, Option.bind_some, hd]
  have hc0 : ∀ (wr : Nat → Wr) (p N : Nat), contAt t.L0 wr (fun _ => false) p N = t.L0[p]? := by
    intro wr p N
    induction N with
    | zero => rfl
    | succ N ih => rw [contAt_skip (.inl rfl), ih]
  have hI0 : InvR L a t R base (fun _ => false) (firstX L a) w := by
    obtain ⟨c, hO⟩ := OW.out
    refine ⟨fun _ => Env.zero, fun p => if p < t.L0.length then c p else [], fun i _ hs => absurd hs Bool.false_ne_true, fun _ _ _ => rfl, ?_⟩
    have e : (fun p => contAt t.L0 (t.wr fun _ => Env.zero) (fun _ => false) p L.length) = fun p => t.L0[p]? := by funext p; exact hc0 _ _ _
    rw [e]
    have key : ∀ p, ((p < t.L0.length) ∧ (if p < t.L0.length then c p else []) = c p) ∨ (¬ p < t.L0.length ∧ (if p < t.L0.length then c p else []) = []) := fun p => by
      by_cases h : p < t.L0.length
      · exact .inl ⟨h, if_pos h⟩
      · exact .inr ⟨h, if_neg h⟩
    refine ⟨fun p _ x hx => ?_, fun p _ hx => ?_, fun p _ z hz => ?_, fun p _ => ?_, fun p q _ _ hne z hz u hu => ?_, fun p _ z hz => ?_, hO.os, hO.tape, hO.output, hO.size, hO.far⟩
    · rcases key p with ⟨h1, h2⟩ | ⟨h1, h2⟩
      · rw [h2]; exact hO.sat p h1 x hx
      · exact absurd (List.getElem?_eq_some_iff.1 hx).1 h1
    · rcases key p with ⟨h1, h2⟩ | ⟨h1, h2⟩
      · rw [h2]; exact hO.nil p h1 hx
      · exact h2
    · rcases key p with ⟨h1, h2⟩ | ⟨h1, h2⟩
      · rw [h2] at hz; exact hO.obj p h1 z hz
      · rw [h2] at hz; simp at hz
    · rcases key p with ⟨h1, h2⟩ | ⟨h1, h2⟩
      · rw [h2]; exact hO.inn p h1
      · rw [h2]; exact List.Pairwise.nil
    · rcases key p with ⟨h1, h2⟩ | ⟨h1, h2⟩
      · rw [h2] at hz
        rcases key q with ⟨h3, h4⟩ | ⟨h3, h4⟩
        · rw [h4] at hu; exact hO.nd p q h1 h3 hne z hz u hu
        · rw [h4] at hu; simp at hu
      · rw [h2] at hz; simp at hz
    · rcases key p with ⟨h1, h2⟩ | ⟨h1, h2⟩
      · rw [h2] at hz; exact hO.lo p h1 z hz
      · rw [h2] at hz; simp at hz
  unfold shapeB at hs
  simp only [Bool.and_eq_true] at hs
  obtain ⟨hsl, hs⟩ := hs
  cases drawn with
  | true =>
    simp only [if_true, Bool.and_eq_true] at hs
    obtain ⟨⟨⟨hc, hb⟩, hb0⟩, hD⟩ := hs
    refine wpIn_region_any hm ?_
    have hle : ∀ k, cntH (Array.replicate L.length false) k ≤ k := by
      intro k
      induction k with
      | zero => exact Nat.le_refl _
      | succ k ih => unfold cntH; split <;> omega
    have h := wpAnyIn_re (R := R) (base := base) h hF hc hb hb0 hsl hD hend2 _ L.toArray.size (Array.replicate L.length false) (firstX L a) w.drew rfl (by rw [List.size_toArray]; exact hle _)
      ⟨by simp, fun j oj _ hl e _ _ => (by rw [getD_replicate_false] at hl; exact Bool.noConfusion hl), fun t _ htt => (by rw [List.size_toArray] at htt; simp [htt])⟩ (fun i _ hl => (by rw [getD_replicate_false] at hl; exact Bool.noConfusion hl))
      (hI0.drew.congr (fun i _ => (getD_replicate_false _ _).symm) (fun _ _ => rfl))
    rw [h0] at h
    simpa using h
  | false =>
    simp only [Bool.false_eq_true, if_false] at hs
    refine wpIn_region_lit ?_
    have h := wpListIn_re (R := R) (base := base) h hF hsl (fun k hk j hj => by
      have := List.all_eq_true.1 (List.all_eq_true.1 hs k (List.mem_range.2 hk)) j hj
      simpa using this) hend2 L.length 0 (firstX L a) w (by omega) (hI0.congr (fun i _ => by simp) (fun _ _ => rfl))
    rw [h0, List.drop_zero] at h
    exact h
end
end Go.Proofs.Ytdglhppcfdpcaaa.E
