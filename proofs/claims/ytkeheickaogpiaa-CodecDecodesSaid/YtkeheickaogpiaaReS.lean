/- What is seen of the equations holds of the operations. No program in sight. -/
import Derived.Test.YtkeheickaogpiaaReH
namespace Go.Proofs.Ytkeheickaogpiaa
open Go Go.RowKit Go.Shelf

theorem whoPuts_dst : ∀ {t : Nat} {l : List Oper} {k i : Nat}, whoPuts t l k = some i → k ≤ i ∧ (l[i - k]?).bind (·.dst) = some t
  | _, [], _, _, h => by cases h
  | t, o :: os, k, i, h => by
    unfold whoPuts at h
    cases hr : whoPuts t os (k + 1) with
    | some j =>
      rw [hr] at h
      cases h
      obtain ⟨h1, h2⟩ := whoPuts_dst hr
      refine ⟨by omega, ?_⟩
      rw [show i - k = (i - (k + 1)) + 1 by omega, List.getElem?_cons_succ]
      exact h2
    | none =>
      rw [hr] at h
      simp only at h
      cases hd : o.dst with
      | none => rw [hd] at h; cases h
      | some d =>
        rw [hd] at h
        simp only at h
        by_cases e : d = t
        · subst e
          simp only [BEq.rfl, if_true, Option.some.injEq] at h
          subst h
          exact ⟨Nat.le_refl _, by simp [hd]⟩
        · rw [if_neg (by simpa using e)] at h
          cases h
theorem whoPuts_lt {t : Nat} {l : List Oper} {i : Nat} (h : whoPuts t l 0 = some i) : i < l.length := by
  obtain ⟨_, h2⟩ := whoPuts_dst h
  rw [Nat.sub_zero] at h2
  rcases Nat.lt_or_ge i l.length with h3 | h3
  · exact h3
  · rw [List.getElem?_eq_none h3] at h2; cases h2
theorem nodupB_spec : ∀ {l : List Nat}, nodupB l = true → l.Nodup
  | [], _ => List.nodup_nil
  | x :: r, h => by
    simp only [nodupB, Bool.and_eq_true, Bool.not_eq_true'] at h
    exact List.nodup_cons.2 ⟨by simpa using h.1, nodupB_spec h.2⟩
section
variable {F : Fence} {n : Nat} {P : Program} {L : List Oper} {Q : Exit → Act → World → Prop} {a : Act} {t : Told} {η : Envs} {k : Nat} {o : Oper} {xs : Nat → Value} {C : List (Nat × Bool)}
/-- Operands are what was told. -/
theorem eval_rho (hx : ∀ i ∈ t.D k, t.Is η i (xs i)) (hf : ∀ i, i < L.length → (i = k ∨ k ∈ t.D i) → xs i = firstX L a i) (hC : ∀ c ∈ C, t.vs η c.1 = .bool c.2) {x : Operand} (ho : okR L a t k C x = true) : (putsH xs L 0 a).eval x = rhoR L a t η k x := by
  cases x with
  | tmp i =>
    rw [putsH_eval]
    simp only [okR] at ho
    simp only [rhoR]
    cases hw : whoPuts i L 0 with
    | none => rfl
    | some j =>
      rw [hw] at ho
      simp only [Bool.and_eq_true] at ho
      simp only
      rw [if_pos (Nat.blt_eq ▸ ho.1)]
      by_cases hd : (t.D k).contains j = true
      · rw [if_pos hd] at ho ⊢
        have hm : j ∈ t.D k := by simpa using hd
        have hh : t.Hold η j := fun c hc => hC c (by have := List.all_eq_true.1 ho.2 c hc; simpa using this)
        rcases hx j hm with ⟨_, h⟩ | ⟨h, _⟩
        · exact h
        · exact absurd hh h
      · rw [if_neg hd] at ho ⊢
        have h2 : j = k ∨ k ∈ t.D j := by simpa using ho.2
        rw [hf j (whoPuts_lt hw) h2]
        unfold firstX
        have := (whoPuts_dst hw).2
        rw [Nat.sub_zero] at this
        rw [this]
        rfl
  | _ => rfl
theorem wp_val (hF : Fence.free F) {b : Act} {w w' : World} {v : Value} {K : Value → World → Prop} (hnd : noDefer o = true) (hr : (execOp b.eval o).run P w = .ok (.value v) w') (hK : K v w') : o.wpIn F n P b w (fun a'' w'' => ∃ v, a'' = b.put o.dst v ∧ K v w'') Q := by
  unfold Oper.wpIn
  refine ⟨fun f _ => hF.2 f, ?_⟩
  rw [Oper.semAt_plain F _ o (noDefer_spec hnd), hr]
  exact ⟨v, rfl, hK⟩
theorem wp_skip (hF : Fence.free F) {b : Act} {w w' : World} {K : Value → World → Prop} (hnd : noDefer o = true) (hr : (execOp b.eval o).run P w = .ok .skip w') (hK : K undef w') : o.wpIn F n P b w (fun a'' w'' => ∃ v, a'' = b.put o.dst v ∧ K v w'') Q := by
  unfold Oper.wpIn
  refine ⟨fun f _ => hF.2 f, ?_⟩
  rw [Oper.semAt_plain F _ o (noDefer_spec hnd), hr]
  exact ⟨undef, rfl, hK⟩
theorem wp_call (hF : Fence.free F) {b : Act} {w : World} {K : Value → World → Prop} {f : FuncId} {ags : Array Operand} {ats : Array TypeId} {vs : Array Value} (ho : o.op = .call { callee := .value (.func f), args := ags, argTypes := ats }) (eg : Enters P f) (hv : ags.map b.eval = vs)
    (h : CallsIn F (n - 1) P f vs w fun e w'' => ∃ v, e = .returned v ∧ K v w'') : o.wpIn F n P b w (fun a'' w'' => ∃ v, a'' = b.put o.dst v ∧ K v w'') Q := by
  subst hv
  unfold Oper.wpIn
  refine ⟨fun f _ => hF.2 f, ?_⟩
  have hr : (execOp b.eval o).run P w = .ok (.enter f (ags.map b.eval)) w := by
    unfold execOp
    simp only [ho, resolve, show b.eval (.func f) = .func (.func f) #[] #[] from rfl, Deferred.ofValue, Sem.run_bind, Sem.run_pure, Result.andThen_ok, invoke]
    rw [eg]
    simp
  rw [Oper.semAt_plain F _ o (fun c hc => by rw [ho] at hc; cases hc), hr]
  refine ⟨fun hd => (by rw [hF.1] at hd; cases hd), h.mono ?_⟩
  rintro e w'' ⟨v, rfl, h3⟩
  exact ⟨v, rfl, h3⟩
theorem Step.refl (W : World) : Step [] [] W W := ⟨rfl, rfl, rfl, Nat.le_refl _, fun _ h => by simp at h, fun _ h => by simp at h, List.Pairwise.nil, fun _ _ _ => rfl⟩
theorem Step.below {W W' : World} (h : Below W.heap.size W W') : Step [] [] W W' := ⟨h.os, h.tape, h.output, h.size, fun _ h => by simp at h, fun _ h => by simp at h, List.Pairwise.nil, fun b hb _ => h.block b hb⟩
theorem Step.alloc (W : World) (o : Obj) : Step [] [(W.heap.size, o)] W (W.alloc o) :=
  have h := (Below.refl W.heap.size W).alloc (Nat.le_refl _) o
  ⟨h.os, h.tape, h.output, h.size, fun x hx => by obtain rfl := List.mem_singleton.1 hx; exact World.alloc_heap_new W o, fun x hx => by obtain rfl := List.mem_singleton.1 hx; exact .inr (Nat.le_refl _), List.pairwise_singleton _ _, fun b hb _ => h.block b hb⟩
theorem Step.put {W W' : World} {g : Nat} {o' : Obj} (hos : W'.os = W.os) (htp : W'.tape = W.tape) (hout : W'.output = W.output) (hsz : W'.heap.size = W.heap.size)
    (hg : W'.heap[g]? = some o') (hf : ∀ b, b ≠ g → W'.heap[b]? = W.heap[b]?) : Step [g] [(g, o')] W W' :=
  ⟨hos, htp, hout, Nat.le_of_eq hsz.symm, fun x hx => by obtain rfl := List.mem_singleton.1 hx; exact hg, fun x hx => by obtain rfl := List.mem_singleton.1 hx; exact .inl (List.mem_singleton.2 rfl), List.pairwise_singleton _ _, fun b _ hb => hf b fun e => hb (List.mem_singleton.2 e)⟩
theorem Step.setc {W : World} {g i : Nat} {t : TypeId} {cs : Array Value} (v : Value) (hb : W.heap[g]? = some (.cells cs t (0, 0))) : Step [g] [(g, .cells (cs.setIfInBounds i v) t (0, 0))] W (W.setCell ⟨g, i, none⟩ v) :=
  Step.put rfl rfl rfl (by simp [World.setCell]) (heap_setCell_same W g i cs t v hb) (fun b hb => heap_setCell_other W ⟨g, i, none⟩ b v hb)
theorem Step.setRow {W : World} {g : Nat} {t : TypeId} {cs : Array Value} (cs' : Array Value) (hb : W.heap[g]? = some (.cells cs t (0, 0))) : Step [g] [(g, .cells cs' t (0, 0))] W (W.setRow g cs') :=
  Step.put rfl rfl rfl (by simp) (setRow_heap W g cs cs' t (0, 0) hb) (fun b hb => setRow_other W g b cs' hb)
theorem run_store1 {W : World} {g i : Nat} {T t : TypeId} {cs : Array Value} {v : Value} (hb : W.heap[g]? = some (.cells cs t (0, 0))) (hi : i < cs.size) (h1 : v.oneCell' = true) (hsz : (P.info? T).map (·.size) = some 1) : (storeVar T ⟨g, i, none⟩ v).run P W = .ok () (W.setCell ⟨g, i, none⟩ v) := by
  have hb' : Blk W g t cs := hb
  cases hq : P.info? T with
  | none => simp [hq] at hsz
  | some inf =>
    have hs : inf.size = 1 := by simpa [hq] using hsz
    have hc : v.cells = #[v] := by cases v <;> first | rfl | simp [Value.oneCell'] at h1
    have hst : (store ⟨g, i, none⟩ v).run P W = .ok () (W.setCell ⟨g, i, none⟩ v) := by
      rw [run_store P W ⟨g, i, none⟩ v .plain h1]
      have hcell : W.cell? ⟨g, i, none⟩ = some cs[i] := (hb'.cell i).trans (Array.getElem?_eq_getElem hi)
      simp [hcell, hb'.frozen i]
    unfold storeVar
    simp only [sizeOf, typeInfo, hc, Sem.run_bind]
    simp [hq, hs, storeCells, Addr.add, Sem.run_bind, hst]
/-- The guards, the conditions, the places. -/
theorem gen_ok {h : Hint F n P} (he : ∀ e ∈ genE L a t η k o ++ kindE L a t η k o h, e.2.1 = e.2.2) :
    guardOk L a t k o η ∧ (∀ c ∈ t.cds k, c.1 ∈ t.D k) ∧ (t.cds k ≠ [] → t.wr η k = []) ∧ (∀ x ∈ t.rd η k, free L t η k x.1 ∧ t.at η x.1 k = some x.2) ∧ ((t.rd η k).map (·.1)).Nodup ∧
    (∀ x ∈ t.wr η k, free L t η k x.1) ∧ (∀ b ∈ t.ob η k, ∃ p o, (∃ x, (p, x) ∈ t.wr η k) ∧ t.at η p k = some (b, o)) ∧
    t.val (mask (t.D k) η) k = t.val η k ∧ t.wt (mask (t.D k) η) k = t.wt η k ∧ t.ob (mask (t.D k) η) k = t.ob η k := by
  have hg : ∀ e ∈ genE L a t η k o, e.2.1 = e.2.2 := fun e hm => he e (List.mem_append_left _ hm)
  simp only [genE, List.mem_cons, List.not_mem_nil, or_false, forall_eq_or_imp, forall_eq, sE, sB] at hg
  obtain ⟨g1, g2, g3, g4, g5, g6, g8, g9, g11, g12, g13⟩ := hg
  have hfree : ∀ p ∈ (t.rd η k).map (·.1) ++ (t.wr η k).map (·.1), free L t η k p := by
    intro p hp
    have h1 := List.all_eq_true.1 g5 p hp
    simp only [Bool.and_eq_true] at h1
    refine ⟨Nat.blt_eq ▸ h1.1, fun j hj hjk hl => ?_⟩
    have h2 := List.all_eq_true.1 h1.2 j (List.mem_range.2 hj)
    simp only [Bool.or_eq_true, Bool.and_eq_true, beq_iff_eq] at h2
    rcases h2 with ((h2 | h2) | ⟨h2, h3⟩) | ⟨h2, h3⟩
    · exact absurd h2 hjk
    · rw [Option.isNone_iff_eq_none] at h2
      rw [h2] at hl
      cases hl
    · exact .inl ⟨Nat.blt_eq ▸ h2, by simpa using h3⟩
    · exact .inr ⟨Nat.blt_eq ▸ h2, by simpa using h3⟩
  have lmap : ∀ {α : Type} {l : Wr} {f g : Nat × (Nat × Obj) → α}, l.map f = l.map g → ∀ x ∈ l, f x = g x := fun {α l f g} h x hx => by
    obtain ⟨i, hi, rfl⟩ := List.getElem_of_mem hx
    have := congrArg (fun z => z[i]?) h
    simpa [hi] using this
  refine ⟨?_, ?_, ?_, ?_, nodupB_spec g6, ?_, ?_, g11, g12, g13⟩
  · unfold guardOk
    cases hgd : o.guard with
    | none => rw [hgd] at g1; exact g1
    | some jb =>
      obtain ⟨j, b⟩ := jb
      rw [hgd] at g1 g2
      simp only [Bool.and_eq_true] at g2
      refine ⟨g1, by simpa using g2.1.1, ?_, ?_⟩
      · have h3 := g2.1.2
        cases hv : t.vs η j with
        | bool E => exact ⟨E, rfl⟩
        | _ => rw [hv] at h3; cases h3
      · have h3 := g2.2
        cases hd : (L.toArray[j]?).bind (·.dst) with
        | none => rw [hd] at h3; cases h3
        | some d =>
          rw [hd] at h3
          simp only [Bool.and_eq_true, beq_iff_eq] at h3
          exact ⟨d, rfl, h3.1, h3.2⟩
  · intro c hc
    have := List.all_eq_true.1 g3 c hc
    simpa using this
  · intro hne
    simp only [Bool.or_eq_true, List.isEmpty_iff] at g4
    exact g4.resolve_left hne
  · intro x hx
    exact ⟨hfree _ (List.mem_append_left _ (List.mem_map.2 ⟨x, hx, rfl⟩)), lmap g8 x hx⟩
  · intro x hx
    exact hfree _ (List.mem_append_right _ (List.mem_map.2 ⟨x, hx, rfl⟩))
  · intro b hb
    rw [g9, List.mem_filterMap] at hb
    obtain ⟨y, hy, e⟩ := hb
    obtain ⟨⟨p, x⟩, hx, rfl⟩ := List.mem_map.1 hy
    cases hq : t.at η p k with
    | none => rw [hq] at e; cases e
    | some z =>
      rw [hq] at e
      simp only [Option.map_some, id, Option.some.injEq] at e
      exact ⟨p, z.2, ⟨x, hx⟩, by rw [hq, ← e]⟩
end
end Go.Proofs.Ytkeheickaogpiaa
