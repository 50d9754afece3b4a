/- A region by what each of its operations does, in every order. No program in sight. -/
import Derived.Test.YtkeheickaogpiaaRe
namespace Go.Proofs.Ytkeheickaogpiaa
open Go Go.RowKit Go.Shelf

/-- What is told of a region: values, what is read, written and made, conditions, and what waits for what. -/
structure Told where
  val : Envs → Nat → Env → Value
  rd : Envs → Nat → Wr
  wt : Envs → Nat → Env → Wr
  ob : Envs → Nat → List Nat
  cds : Nat → List (Nat × Bool)
  D : Nat → List Nat
  L0 : Objs
  m : Nat
def Told.vs (t : Told) (η : Envs) (k : Nat) : Value := t.val η k (η k)
def Told.wr (t : Told) (η : Envs) (k : Nat) : Wr := t.wt η k (η k)
def Told.Hold (t : Told) (η : Envs) (k : Nat) : Prop := ∀ c ∈ t.cds k, t.vs η c.1 = .bool c.2
def Told.Is (t : Told) (η : Envs) (i : Nat) (x : Value) : Prop := (t.Hold η i ∧ x = t.vs η i) ∨ (¬ t.Hold η i ∧ x = undef)
def Told.at (t : Told) (η : Envs) (p k : Nat) : Option (Nat × Obj) := contAt t.L0 (t.wr η) (fun _ => true) p k
def upd (η : Envs) (k : Nat) (E : Env) : Envs := fun j => if j = k then E else η j
def mask (D : List Nat) (η : Envs) : Envs := fun j => if D.contains j then η j else Env.zero
theorem mask_upd {D : List Nat} {η : Envs} {k : Nat} {E : Env} (h : k ∉ D) : mask D (upd η k E) = mask D η := by
  funext j
  unfold mask upd
  by_cases hj : D.contains j = true
  · have hm : j ∈ D := by simpa using hj
    have hne : j ≠ k := fun e => by subst e; exact h hm
    rw [if_pos hj, if_pos hj, if_neg hne]
  · rw [if_neg hj, if_neg hj]

section
variable (F : Fence) (n : Nat) (P : Program) (L : List Oper) (Q : Exit → Act → World → Prop) (a : Act) (t : Told)
/-- One operation, whatever the others made. -/
structure Acts (η : Envs) (k : Nat) (o : Oper) : Prop where
  out : ∀ (xs : Nat → Value) (w' : World), (∀ i ∈ t.D k, t.Is η i (xs i)) → (∀ i, i < L.length → (i = k ∨ k ∈ t.D i) → xs i = firstX L a i) → Has ((t.rd η k).map (·.2)) w' → t.Hold η k →
    ∀ K : Value → World → Prop, (∀ E w'', Step (t.ob η k) ((t.wt η k E).map (·.2)) w' w'' → K (t.val η k E) w'') →
      o.wpIn F n P (putsH xs L 0 a) w' (fun a'' w'' => ∃ v, a'' = (putsH xs L 0 a).put o.dst v ∧ K v w'') Q
/-- The guard is the last of the conditions. -/
def guardOk (k : Nat) (o : Oper) (η : Envs) : Prop := match o.guard with
  | none => t.cds k = []
  | some (j, b) => t.cds k = t.cds j ++ [(j, b)] ∧ j ∈ t.D k ∧ (∃ E, t.vs η j = .bool E) ∧ (∃ d, (L.toArray[j]?).bind (·.dst) = some d ∧ whoPuts d L 0 = some j ∧ Nat.blt d a.tmps.size = true)
def free (η : Envs) (k p : Nat) : Prop := p < t.m ∧ ∀ j, j < L.length → j ≠ k → (look (t.wr η j) p).isSome = true → (j < k ∧ j ∈ t.D k) ∨ (k < j ∧ k ∈ t.D j)
/-- All that the walk of a region asks. -/
structure ReOk : Prop where
  acts : ∀ η k o, L[k]? = some o → Acts F n P L Q a t η k o
  guard : ∀ η k o, L[k]? = some o → guardOk L a t k o η
  cin : ∀ k, k < L.length → ∀ c ∈ t.cds k, c.1 ∈ t.D k
  still : ∀ η k, k < L.length → t.cds k ≠ [] → t.wr η k = []
  rdf : ∀ η k, k < L.length → ∀ x ∈ t.rd η k, free L t η k x.1 ∧ t.at η x.1 k = some x.2
  rdn : ∀ η k, k < L.length → ((t.rd η k).map (·.1)).Nodup
  wrf : ∀ η k, k < L.length → ∀ x ∈ t.wr η k, free L t η k x.1
  obf : ∀ η k, k < L.length → ∀ b ∈ t.ob η k, ∃ p o, (∃ x, (p, x) ∈ t.wr η k) ∧ t.at η p k = some (b, o)
  mval : ∀ η k, k < L.length → t.val (mask (t.D k) η) k = t.val η k
  mwt : ∀ η k, k < L.length → t.wt (mask (t.D k) η) k = t.wt η k
  mob : ∀ η k, k < L.length → t.ob (mask (t.D k) η) k = t.ob η k
end
section
variable {F : Fence} {n : Nat} {P : Program} {L : List Oper} {Q : Exit → Act → World → Prop} {a : Act} {t : Told}
theorem ReOk.val_upd (h : ReOk F n P L Q a t) {η : Envs} {i k : Nat} {E : Env} (hi : i < L.length) (hk : k ∉ t.D i) : t.val (upd η k E) i = t.val η i := by
  rw [← h.mval (upd η k E) i hi, mask_upd hk, h.mval η i hi]
theorem ReOk.wt_upd (h : ReOk F n P L Q a t) {η : Envs} {i k : Nat} {E : Env} (hi : i < L.length) (hk : k ∉ t.D i) : t.wt (upd η k E) i = t.wt η i := by
  rw [← h.mwt (upd η k E) i hi, mask_upd hk, h.mwt η i hi]
theorem ReOk.ob_upd (h : ReOk F n P L Q a t) {η : Envs} {i k : Nat} {E : Env} (hi : i < L.length) (hk : k ∉ t.D i) : t.ob (upd η k E) i = t.ob η i := by
  rw [← h.mob (upd η k E) i hi, mask_upd hk, h.mob η i hi]
theorem ReOk.vs_upd (h : ReOk F n P L Q a t) {η : Envs} {i k : Nat} {E : Env} (hi : i < L.length) (hk : k ∉ t.D i) (hne : i ≠ k) : t.vs (upd η k E) i = t.vs η i := by
  unfold Told.vs
  rw [h.val_upd hi hk, show upd η k E i = η i from if_neg hne]
theorem ReOk.wr_upd (h : ReOk F n P L Q a t) {η : Envs} {i k : Nat} {E : Env} (hi : i < L.length) (hk : k ∉ t.D i) (hne : i ≠ k) : t.wr (upd η k E) i = t.wr η i := by
  unfold Told.wr
  rw [h.wt_upd hi hk, show upd η k E i = η i from if_neg hne]

/-- What holds when the operations of S are done. -/
def InvR (L : List Oper) (a : Act) (t : Told) (R : List Nat) (base : World) (S : Nat → Bool) (xs : Nat → Value) (w : World) : Prop :=
  ∃ η : Envs, (∀ i, i < L.length → S i = true → t.Is η i (xs i)) ∧ (∀ i, i < L.length → S i = false → xs i = firstX L a i) ∧ OwnF R base t.m (fun p => contAt t.L0 (t.wr η) S p L.length) w

theorem re_step (h : ReOk F n P L Q a t) {R : List Nat} {base : World} {S : Nat → Bool} {xs : Nat → Value} {w' : World} {k : Nat} {o : Oper} (hk : k < L.length) (ho : L[k]? = some o)
    (hS : S k = false) (hD : ∀ j ∈ t.D k, j < L.length ∧ S j = true) (hcl : ∀ i, i < L.length → S i = true → ∀ j ∈ t.D i, j < L.length ∧ S j = true) (inv : InvR L a t R base S xs w')
    (K : Value → World → Prop) (hK : ∀ v w'', InvR L a t R base (fun j => if j = k then true else S j) (fun j => if j = k then v else xs j) w'' → K v w'') (hF : Fence.free F) :
    if Region.wanted o (yielded L.toArray (putsH xs L 0 a).tmps) = true then o.wpIn F n P (putsH xs L 0 a) w' (fun a'' w'' => ∃ v, a'' = (putsH xs L 0 a).put o.dst v ∧ K v w'') Q
    else (∀ f, o.about P w' (putsH xs L 0 a).eval = some f → F.fn f) ∧ K undef w' := by
  obtain ⟨η, hx, hfx, hO⟩ := inv
  have hkD : k ∉ t.D k := fun hm => by have := (hD k hm).2; rw [hS] at this; cases this
  have hkDi : ∀ i, i < L.length → S i = true → k ∉ t.D i := fun i hi hs hm => by have := (hcl i hi hs k hm).2; rw [hS] at this; cases this
  have hne : ∀ i, S i = true → i ≠ k := fun i hs e => by subst e; rw [hS] at hs; cases hs
  -- a place that is free for k holds what the text says
  have rd : ∀ (η' : Envs) (p : Nat), free L t η' k p → contAt t.L0 (t.wr η') S p L.length = t.at η' p k := by
    intro η' p hf
    refine contAt_read (Nat.le_of_lt hk) (fun j hj hl => ?_) (fun j hj hjN hl => ?_)
    · rcases hf.2 j (by omega) (by omega) hl with ⟨_, h2⟩ | ⟨h1, _⟩
      · exact (hD j h2).2
      · omega
    · by_cases e : j = k
      · subst e; exact hS
      · rcases hf.2 j hjN e hl with ⟨h1, _⟩ | ⟨_, h2⟩
        · omega
        · cases hsj : S j with
          | false => rfl
          | true => exact absurd h2 (hkDi j hjN hsj)
  have hg := h.guard η k o ho
  -- the operation is done
  have done : Told.Hold t η k → o.wpIn F n P (putsH xs L 0 a) w' (fun a'' w'' => ∃ v, a'' = (putsH xs L 0 a).put o.dst v ∧ K v w'') Q := by
    intro hh
    refine (h.acts η k o ho).out xs w' (fun i hi => hx i (hD i hi).1 (hD i hi).2) (fun i hi hik => ?_) ?_ hh _ ?_
    · refine hfx i hi ?_
      rcases hik with rfl | hm
      · exact hS
      · cases hsi : S i with
        | false => rfl
        | true => exact absurd hm (hkDi i hi hsi)
    · refine ⟨fun x hx => ?_, ?_⟩
      · obtain ⟨⟨p, x⟩, hm, rfl⟩ := List.mem_map.1 hx
        obtain ⟨h1, h2⟩ := h.rdf η k hk _ hm
        exact hO.obj p h1.1 x ((rd η p h1).trans h2)
      · rw [List.pairwise_map, List.pairwise_iff_getElem]
        intro i j hi hj hij
        obtain ⟨h1, h2⟩ := h.rdf η k hk _ (List.getElem_mem hi)
        obtain ⟨k1, k2⟩ := h.rdf η k hk _ (List.getElem_mem hj)
        refine hO.nd _ _ h1.1 k1.1 ?_ _ _ ((rd η _ h1).trans h2) ((rd η _ k1).trans k2)
        have hnd := h.rdn η k hk
        unfold List.Nodup at hnd
        rw [List.pairwise_map, List.pairwise_iff_getElem] at hnd
        exact hnd i j hi hj hij
    · intro E w'' hst
      refine hK _ _ ⟨upd η k E, fun i hi hs => ?_, fun i hi hs => ?_, ?_⟩
      · by_cases e : i = k
        · subst e
          simp only [if_true]
          refine .inl ⟨fun c hc => ?_, ?_⟩
          · have hcd := h.cin i hk c hc
            have hcs := hD c.1 hcd
            rw [h.vs_upd hcs.1 (hkDi c.1 hcs.1 hcs.2) (hne _ hcs.2)]
            exact hh c hc
          · unfold Told.vs
            rw [h.val_upd hk hkD, show upd η i E i = E from if_pos rfl]
        · simp only [if_neg e] at hs ⊢
          have hv := h.vs_upd (η := η) (E := E) hi (hkDi i hi hs) e
          have hcc : Told.Hold t (upd η k E) i ↔ Told.Hold t η i := by
            have heq : ∀ c ∈ t.cds i, t.vs (upd η k E) c.1 = t.vs η c.1 := fun c hc => by
              have hcd := h.cin i hi c hc
              have hcs := hcl i hi hs c.1 hcd
              exact h.vs_upd hcs.1 (hkDi c.1 hcs.1 hcs.2) (hne _ hcs.2)
            exact ⟨fun hh c hc => (heq c hc).symm.trans (hh c hc), fun hh c hc => (heq c hc).trans (hh c hc)⟩
          rcases hx i hi hs with ⟨h1, h2⟩ | ⟨h1, h2⟩
          · exact .inl ⟨hcc.2 h1, by rw [hv]; exact h2⟩
          · exact .inr ⟨fun h3 => h1 (hcc.1 h3), h2⟩
      · by_cases e : i = k
        · subst e; simp at hs
        · simp only [if_neg e] at hs ⊢
          exact hfx i hi hs
      · have hcg : ∀ p, contAt t.L0 (t.wr (upd η k E)) S p L.length = contAt t.L0 (t.wr η) S p L.length := fun p => contAt_congr fun j hj => ⟨rfl, fun hs => by rw [h.wr_upd hj (hkDi j hj hs) (hne j hs)]⟩
        have hwr : t.wr (upd η k E) k = t.wt η k E := by
          unfold Told.wr
          rw [h.wt_upd hk hkD, show upd η k E k = E from if_pos rfl]
        have hfr : ∀ p, (look (t.wr (upd η k E) k) p).isSome = true → free L t (upd η k E) k p := by
          intro p hp
          obtain ⟨x, hx⟩ := Option.isSome_iff_exists.1 hp
          exact h.wrf (upd η k E) k hk _ (look_mem hx)
        have hf : (fun p => contAt t.L0 (t.wr (upd η k E)) (fun j => if j = k then true else S j) p L.length) = updF (fun p => contAt t.L0 (t.wr η) S p L.length) (t.wt η k E) := by
          funext p
          rw [contAt_write hk hS (fun hl j hkj hjN hlj => ?_), hwr, hcg]
          · rfl
          · rcases (hfr p hl).2 j hjN (by omega) hlj with ⟨h1, _⟩ | ⟨_, h2⟩
            · omega
            · cases hsj : S j with
              | false => rfl
              | true => exact absurd h2 (hkDi j hjN hsj)
        rw [hf]
        refine hO.step hst fun b hb => ?_
        obtain ⟨p, o', ⟨x, hx⟩, hat⟩ := h.obf (upd η k E) k hk b (by rw [h.ob_upd hk hkD]; exact hb)
        have h1 := h.wrf (upd η k E) k hk _ hx
        exact ⟨p, o', h1.1, ⟨x, by rw [← hwr]; exact hx⟩, by rw [← hcg, rd _ _ h1]; exact hat⟩
  -- it is not done
  have skip : ¬ Told.Hold t η k → t.cds k ≠ [] → K undef w' := by
    intro hn hc
    have hw := h.still η k hk hc
    refine hK _ _ ⟨η, fun i hi hs => ?_, fun i hi hs => ?_, ?_⟩
    · by_cases e : i = k
      · subst e
        simp only [if_true]
        exact .inr ⟨hn, rfl⟩
      · simp only [if_neg e] at hs ⊢
        exact hx i hi hs
    · by_cases e : i = k
      · subst e; simp at hs
      · simp only [if_neg e] at hs ⊢
        exact hfx i hi hs
    · have hf : (fun p => contAt t.L0 (t.wr η) (fun j => if j = k then true else S j) p L.length) = fun p => contAt t.L0 (t.wr η) S p L.length := by
        funext p
        rw [contAt_write hk hS (fun hl => by rw [hw] at hl; cases hl), hw]
        rfl
      rw [hf]
      exact hO
  unfold guardOk at hg
  cases hgd : o.guard with
  | none =>
    rw [hgd] at hg
    simp only at hg
    rw [if_pos (by simp [Region.wanted, hgd])]
    exact done (fun c hc => by rw [hg] at hc; simp at hc)
  | some jb =>
    obtain ⟨j, b⟩ := jb
    rw [hgd] at hg
    simp only at hg
    obtain ⟨hc, hjD, ⟨E, hE⟩, d, hd, hw, hs⟩ := hg
    have hjx := hx j (hD j hjD).1 (hD j hjD).2
    have hlt : L.take L.length = L := List.take_length
    rcases hjx with ⟨h1, h2⟩ | ⟨h1, h2⟩
    · rw [hE] at h2
      have hwt := wanted_of (L := L) (N := L.length) (a := a) (xs := xs) hgd hd (by rw [hlt]; exact hw) hs h2
      rw [hlt] at hwt
      by_cases e : E = b
      · subst e
        rw [hwt, if_pos (by cases E <;> rfl)]
        refine done fun c hcm => ?_
        rw [hc] at hcm
        rcases List.mem_append.1 hcm with h3 | h3
        · exact h1 c h3
        · obtain rfl := List.mem_singleton.1 h3
          exact hE
      · rw [hwt, if_neg (by cases E <;> cases b <;> simp_all)]
        refine ⟨fun f _ => hF.2 f, skip (fun hh => e ?_) (by rw [hc]; simp)⟩
        have := hh (j, b) (by rw [hc]; simp)
        rw [hE] at this
        exact Value.bool.inj this
    · have hwt := wanted_undef (L := L) (N := L.length) (a := a) (xs := xs) hgd hd (by rw [hlt]; exact hw) hs h2
      rw [hlt] at hwt
      rw [hwt, if_neg (by decide)]
      refine ⟨fun f _ => hF.2 f, skip (fun hh => h1 fun c hcm => hh c (by rw [hc]; exact List.mem_append_left _ hcm)) (by rw [hc]; simp)⟩
end
end Go.Proofs.Ytkeheickaogpiaa
