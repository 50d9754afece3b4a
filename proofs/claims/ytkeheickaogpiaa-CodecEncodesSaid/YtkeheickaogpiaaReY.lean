/- Several texts in one: ReS ReT ReC ReO ReB ReP. -/
import Derived.Test.YtkeheickaogpiaaReX
import Derived.Test.YtkeheickaogpiaaOwA
import Derived.Test.YtkeheickaogpiaaRsQ
import Derived.IntWalk
import Derived.Laws.AppendOwn
namespace Go.Proofs.Ytkeheickaogpiaa
open Go Go.RowKit Go.Shelf

theorem whoPuts_dst : ∀ {t : Nat} {l : List Oper} {k i : Nat}, whoPuts t l k = some i → k ≤ i ∧ (l[i - k]?).bind (·.dst) = some t
  | _, [], _, _, h => by cases h
  | t, o :: os, k, i, h => by
    unfold whoPuts at h
    cases hr : whoPuts t os (k + 1) with
    | some j =>
      rw [hr] at h
      cases h
      obtain ⟨h1, h2⟩ := whoPuts_dst hr
      refine ⟨by omega, ?_⟩
      rw [show i - k = (i - (k + 1)) + 1 by omega, List.getElem?_cons_succ]
      exact h2
    | none =>
      rw [hr] at h
      simp only at h
      cases hd : o.dst with
      | none => rw [hd] at h; cases h
      | some d =>
        rw [hd] at h
        simp only at h
        by_cases e : d = t
        · subst e
          simp only [BEq.rfl, if_true, Option.some.injEq] at h
          subst h
          exact ⟨Nat.le_refl _, by simp [hd]⟩
        · rw [if_neg (by simpa using e)] at h
          cases h
theorem whoPuts_lt {t : Nat} {l : List Oper} {i : Nat} (h : whoPuts t l 0 = some i) : i < l.length := by
  obtain ⟨_, h2⟩ := whoPuts_dst h
  rw [Nat.sub_zero] at h2
  rcases Nat.lt_or_ge i l.length with h3 | h3
  · exact h3
  · rw [List.getElem?_eq_none h3] at h2; cases h2
theorem nodupB_spec : ∀ {l : List Nat}, nodupB l = true → l.Nodup
  | [], _ => List.nodup_nil
  | x :: r, h => by
    simp only [nodupB, Bool.and_eq_true, Bool.not_eq_true'] at h
    exact List.nodup_cons.2 ⟨by simpa using h.1, nodupB_spec h.2⟩
section
variable {F : Fence} {n : Nat} {P : Program} {L : List Oper} {Q : Exit → Act → World → Prop} {a : Act} {t : Told} {η : Envs} {k : Nat} {o : Oper} {xs : Nat → Value} {C : List (Nat × Bool)}
/-- Operands are what was told. -/
theorem eval_rho (hx : ∀ i ∈ t.D k, t.Is η i (xs i)) (hf : ∀ i, i < L.length → (i = k ∨ k ∈ t.D i) → xs i = firstX L a i) (hC : ∀ c ∈ C, t.vs η c.1 = .bool c.2) {x : Operand} (ho : okR L a t k C x = true) : (putsH xs L 0 a).eval x = rhoR L a t η k x := by
  cases x with
  | tmp i =>
    rw [putsH_eval]
    simp only [okR] at ho
    simp only [rhoR]
    cases hw : whoPuts i L 0 with
    | none => rfl
    | some j =>
      rw [hw] at ho
      simp only [Bool.and_eq_true] at ho
      simp only
      rw [if_pos (Nat.blt_eq ▸ ho.1)]
      by_cases hd : (t.D k).contains j = true
      · rw [if_pos hd] at ho ⊢
        have hm : j ∈ t.D k := by simpa using hd
        have hh : t.Hold η j := fun c hc => hC c (by have := List.all_eq_true.1 ho.2 c hc; simpa using this)
        rcases hx j hm with ⟨_, h⟩ | ⟨h, _⟩
        · exact h
        · exact absurd hh h
      · rw [if_neg hd] at ho ⊢
        have h2 : j = k ∨ k ∈ t.D j := by simpa using ho.2
        rw [hf j (whoPuts_lt hw) h2]
        unfold firstX
        have := (whoPuts_dst hw).2
        rw [Nat.sub_zero] at this
        rw [this]
        rfl
  | _ => rfl
theorem wp_val (hF : Fence.free F) {b : Act} {w w' : World} {v : Value} {K : Value → World → Prop} (hnd : noDefer o = true) (hr : (execOp b.eval o).run P w = .ok (.value v) w') (hK : K v w') : o.wpIn F n P b w (fun a'' w'' => ∃ v, a'' = b.put o.dst v ∧ K v w'') Q := by
  unfold Oper.wpIn
  refine ⟨fun f _ => hF.2 f, ?_⟩
  rw [Oper.semAt_plain F _ o (noDefer_spec hnd), hr]
  exact ⟨v, rfl, hK⟩
theorem wp_skip (hF : Fence.free F) {b : Act} {w w' : World} {K : Value → World → Prop} (hnd : noDefer o = true) (hr : (execOp b.eval o).run P w = .ok .skip w') (hK : K undef w') : o.wpIn F n P b w (fun a'' w'' => ∃ v, a'' = b.put o.dst v ∧ K v w'') Q := by
  unfold Oper.wpIn
  refine ⟨fun f _ => hF.2 f, ?_⟩
  rw [Oper.semAt_plain F _ o (noDefer_spec hnd), hr]
  exact ⟨undef, rfl, hK⟩
theorem wp_call (hF : Fence.free F) {b : Act} {w : World} {K : Value → World → Prop} {f : FuncId} {ags : Array Operand} {ats : Array TypeId} {vs : Array Value} (ho : o.op = .call { callee := .value (.func f), args := ags, argTypes := ats }) (eg : Enters P f) (hv : ags.map b.eval = vs)
    (h : CallsIn F (n - 1) P f vs w fun e w'' => ∃ v, e = .returned v ∧ K v w'') : o.wpIn F n P b w (fun a'' w'' => ∃ v, a'' = b.put o.dst v ∧ K v w'') Q := by
  subst hv
  unfold Oper.wpIn
  refine ⟨fun f _ => hF.2 f, ?_⟩
  have hr : (execOp b.eval o).run P w = .ok (.enter f (ags.map b.eval)) w := by
    unfold execOp
    simp only [ho, resolve, show b.eval (.func f) = .func (.func f) #[] #[] from rfl, Deferred.ofValue, Sem.run_bind, Sem.run_pure, Result.andThen_ok, invoke]
    rw [eg]
    simp
  rw [Oper.semAt_plain F _ o (fun c hc => by rw [ho] at hc; cases hc), hr]
  refine ⟨fun hd => (by rw [hF.1] at hd; cases hd), h.mono ?_⟩
  rintro e w'' ⟨v, rfl, h3⟩
  exact ⟨v, rfl, h3⟩
theorem Step.refl (W : World) : Step [] [] W W := ⟨rfl, rfl, rfl, Nat.le_refl _, fun _ h => by simp at h, fun _ h => by simp at h, List.Pairwise.nil, fun _ _ _ => rfl⟩
theorem Step.below {W W' : World} (h : Below W.heap.size W W') : Step [] [] W W' := ⟨h.os, h.tape, h.output, h.size, fun _ h => by simp at h, fun _ h => by simp at h, List.Pairwise.nil, fun b hb _ => h.block b hb⟩
theorem Step.alloc (W : World) (o : Obj) : Step [] [(W.heap.size, o)] W (W.alloc o) :=
  have h := (Below.refl W.heap.size W).alloc (Nat.le_refl _) o
  ⟨h.os, h.tape, h.output, h.size, fun x hx => by obtain rfl := List.mem_singleton.1 hx; exact World.alloc_heap_new W o, fun x hx => by obtain rfl := List.mem_singleton.1 hx; exact .inr (Nat.le_refl _), List.pairwise_singleton _ _, fun b hb _ => h.block b hb⟩
theorem Step.put {W W' : World} {g : Nat} {o' : Obj} (hos : W'.os = W.os) (htp : W'.tape = W.tape) (hout : W'.output = W.output) (hsz : W'.heap.size = W.heap.size)
    (hg : W'.heap[g]? = some o') (hf : ∀ b, b ≠ g → W'.heap[b]? = W.heap[b]?) : Step [g] [(g, o')] W W' :=
  ⟨hos, htp, hout, Nat.le_of_eq hsz.symm, fun x hx => by obtain rfl := List.mem_singleton.1 hx; exact hg, fun x hx => by obtain rfl := List.mem_singleton.1 hx; exact .inl (List.mem_singleton.2 rfl), List.pairwise_singleton _ _, fun b _ hb => hf b fun e => hb (List.mem_singleton.2 e)⟩
theorem Step.setc {W : World} {g i : Nat} {t : TypeId} {cs : Array Value} (v : Value) (hb : W.heap[g]? = some (.cells cs t (0, 0))) : Step [g] [(g, .cells (cs.setIfInBounds i v) t (0, 0))] W (W.setCell ⟨g, i, none⟩ v) :=
  Step.put rfl rfl rfl (by simp [World.setCell]) (heap_setCell_same W g i cs t v hb) (fun b hb => heap_setCell_other W ⟨g, i, none⟩ b v hb)
theorem Step.setRow {W : World} {g : Nat} {t : TypeId} {cs : Array Value} (cs' : Array Value) (hb : W.heap[g]? = some (.cells cs t (0, 0))) : Step [g] [(g, .cells cs' t (0, 0))] W (W.setRow g cs') :=
  Step.put rfl rfl rfl (by simp) (setRow_heap W g cs cs' t (0, 0) hb) (fun b hb => setRow_other W g b cs' hb)
theorem run_store1 {W : World} {g i : Nat} {T t : TypeId} {cs : Array Value} {v : Value} (hb : W.heap[g]? = some (.cells cs t (0, 0))) (hi : i < cs.size) (h1 : v.oneCell' = true) (hsz : (P.info? T).map (·.size) = some 1) : (storeVar T ⟨g, i, none⟩ v).run P W = .ok () (W.setCell ⟨g, i, none⟩ v) := by
  have hb' : Blk W g t cs := hb
  cases hq : P.info? T with
  | none => simp [hq] at hsz
  | some inf =>
    have hs : inf.size = 1 := by simpa [hq] using hsz
    have hc : v.cells = #[v] := by cases v <;> first | rfl | simp [Value.oneCell'] at h1
    have hst : (store ⟨g, i, none⟩ v).run P W = .ok () (W.setCell ⟨g, i, none⟩ v) := by
      rw [run_store P W ⟨g, i, none⟩ v .plain h1]
      have hcell : W.cell? ⟨g, i, none⟩ = some cs[i] := (hb'.cell i).trans (Array.getElem?_eq_getElem hi)
      simp [hcell, hb'.frozen i]
    unfold storeVar
    simp only [sizeOf, typeInfo, hc, Sem.run_bind]
    simp [hq, hs, storeCells, Addr.add, Sem.run_bind, hst]
/-- The guards, the conditions, the places. -/
theorem gen_ok {h : Hint F n P} (he : ∀ e ∈ genE L a t η k o ++ kindE L a t η k o h, e.2.1 = e.2.2) :
    guardOk L a t k o η ∧ (∀ c ∈ t.cds k, c.1 ∈ t.D k) ∧ (t.cds k ≠ [] → t.wr η k = []) ∧ (∀ x ∈ t.rd η k, free L t η k x.1 ∧ t.at η x.1 k = some x.2) ∧ ((t.rd η k).map (·.1)).Nodup ∧
    (∀ x ∈ t.wr η k, free L t η k x.1) ∧ (∀ b ∈ t.ob η k, ∃ p o, (∃ x, (p, x) ∈ t.wr η k) ∧ t.at η p k = some (b, o)) ∧
    t.val (mask (t.D k) η) k = t.val η k ∧ t.wt (mask (t.D k) η) k = t.wt η k ∧ t.ob (mask (t.D k) η) k = t.ob η k := by
  have hg : ∀ e ∈ genE L a t η k o, e.2.1 = e.2.2 := fun e hm => he e (List.mem_append_left _ hm)
  simp only [genE, List.mem_cons, List.not_mem_nil, or_false, forall_eq_or_imp, forall_eq, sE, sB] at hg
  obtain ⟨g1, g2, g3, g4, g5, g6, g8, g9, g11, g12, g13⟩ := hg
  have hfree : ∀ p ∈ (t.rd η k).map (·.1) ++ (t.wr η k).map (·.1), free L t η k p := by
    intro p hp
    have h1 := List.all_eq_true.1 g5 p hp
    simp only [Bool.and_eq_true] at h1
    refine ⟨Nat.blt_eq ▸ h1.1, fun j hj hjk hl => ?_⟩
    have h2 := List.all_eq_true.1 h1.2 j (List.mem_range.2 hj)
    simp only [Bool.or_eq_true, Bool.and_eq_true, beq_iff_eq] at h2
    rcases h2 with ((h2 | h2) | ⟨h2, h3⟩) | ⟨h2, h3⟩
    · exact absurd h2 hjk
    · rw [Option.isNone_iff_eq_none] at h2
      rw [h2] at hl
      cases hl
    · exact .inl ⟨Nat.blt_eq ▸ h2, by simpa using h3⟩
    · exact .inr ⟨Nat.blt_eq ▸ h2, by simpa using h3⟩
  have lmap : ∀ {α : Type} {l : Wr} {f g : Nat × (Nat × Obj) → α}, l.map f = l.map g → ∀ x ∈ l, f x = g x := fun {α l f g} h x hx => by
    obtain ⟨i, hi, rfl⟩ := List.getElem_of_mem hx
    have := congrArg (fun z => z[i]?) h
    simpa [hi] using this
  refine ⟨?_, ?_, ?_, ?_, nodupB_spec g6, ?_, ?_, g11, g12, g13⟩
  · unfold guardOk
    cases hgd : o.guard with
    | none => rw [hgd] at g1; exact g1
    | some jb =>
      obtain ⟨j, b⟩ := jb
      rw [hgd] at g1 g2
      simp only [Bool.and_eq_true] at g2
      refine ⟨g1, by simpa using g2.1.1, ?_, ?_⟩
      · have h3 := g2.1.2
        cases hv : t.vs η j with
        | bool E => exact ⟨E, rfl⟩
        | _ => rw [hv] at h3; cases h3
      · have h3 := g2.2
        cases hd : (L.toArray[j]?).bind (·.dst) with
        | none => rw [hd] at h3; cases h3
        | some d =>
          rw [hd] at h3
          simp only [Bool.and_eq_true, beq_iff_eq] at h3
          exact ⟨d, rfl, h3.1, h3.2⟩
  · intro c hc
    have := List.all_eq_true.1 g3 c hc
    simpa using this
  · intro hne
    simp only [Bool.or_eq_true, List.isEmpty_iff] at g4
    exact g4.resolve_left hne
  · intro x hx
    exact ⟨hfree _ (List.mem_append_left _ (List.mem_map.2 ⟨x, hx, rfl⟩)), lmap g8 x hx⟩
  · intro x hx
    exact hfree _ (List.mem_append_right _ (List.mem_map.2 ⟨x, hx, rfl⟩))
  · intro b hb
    rw [g9, List.mem_filterMap] at hb
    obtain ⟨y, hy, e⟩ := hb
    obtain ⟨⟨p, x⟩, hx, rfl⟩ := List.mem_map.1 hy
    cases hq : t.at η p k with
    | none => rw [hq] at e; cases e
    | some z =>
      rw [hq] at e
      simp only [Option.map_some, id, Option.some.injEq] at e
      exact ⟨p, z.2, ⟨x, hx⟩, by rw [hq, ← e]⟩
end
end Go.Proofs.Ytkeheickaogpiaa
namespace Go.Proofs.Ytkeheickaogpiaa
open Go Go.RowKit Go.Shelf

section
variable {F : Fence} {n : Nat} {P : Program} {L : List Oper} {Q : Exit → Act → World → Prop} {a : Act} {t : Told} {η : Envs} {k : Nat} {o : Oper}
theorem sB_false (h : ∀ e ∈ [sB false], e.2.1 = e.2.2) : False := by
  have := h (sB false) (List.mem_singleton.2 rfl)
  cases this
theorem has_at1 {p g : Nat} {ob : Obj} {c : Nat → Option (Nat × Obj)} {w : World} (h : Has ((at1 p c).map (·.2)) w) (hc : c p = some (g, ob)) : w.heap[g]? = some ob := by
  unfold at1 at h
  rw [hc] at h
  exact h.obj (g, ob) (by simp)
theorem has_1 {p g : Nat} {ob : Obj} {w : World} (h : Has (([(p, (g, ob))] : Wr).map (·.2)) w) : w.heap[g]? = some ob := h.obj (g, ob) (by simp)
theorem run_vS {s : Sem Value} {v : Value} {w : World} (h : s.run P w = .ok v w) : (vS s).run P w = .ok (.value v) w := by
  unfold vS
  simp only [Sem.run_bind, h, Result.andThen_ok, Sem.run_pure]
theorem andE_spec {b E : Bool} {x v : Value} (h : andE b E x = some v) : b = true ∧ ∃ X, x = .bool X ∧ v = .bool (E && X) := by
  unfold andE at h
  split at h
  · cases h; exact ⟨rfl, _, rfl, rfl⟩
  · cases h
theorem orE_spec {b E : Bool} {x v : Value} (h : orE b E x = some v) : b = true ∧ ∃ X, x = .bool X ∧ v = .bool (E || X) := by
  unfold orE at h
  split at h
  · cases h; exact ⟨rfl, _, rfl, rfl⟩
  · cases h
theorem run_ls {w : World} {g off : Nat} {ty T : TypeId} {cs : Array Value} {l : List Value} (hg : w.heap[g]? = some (.cells cs ty (0, 0))) (hl : (cs.toList.drop off).take l.length = l) (h : aggB P T = true) (hi : (P.info? T).map (·.size) = some l.length) : (loadVar T ⟨g, off, none⟩).run P w = .ok (.agg l.toArray) w := by
  unfold aggB at h
  split at h
  · rename_i e; exact run_loadVar_sub w g off ty T cs l hg hl e rfl hi
  · rename_i e; exact run_loadVar_sub w g off ty T cs l hg hl e rfl hi
  · cases h
theorem run_lr {w : World} {g : Nat} {ty T : TypeId} {cs : Array Value} (hg : w.heap[g]? = some (.cells cs ty (0, 0))) (h : aggB P T = true) (hi : (P.info? T).map (·.size) = some cs.size) : (loadVar T ⟨g, 0, none⟩).run P w = .ok (.agg cs) w := by
  unfold aggB at h
  split at h
  · rename_i e; exact run_loadVar_row w g ty T cs (0, 0) _ hg e rfl hi
  · rename_i e; exact run_loadVar_row w g ty T cs (0, 0) _ hg e rfl hi
  · cases h
theorem kind_ok (hF : Fence.free F) (h : Hint F n P) (hv : t.val η k = h.val) (hrd : t.rd η k = h.rd (fun p => t.at η p k)) (hwt : t.wt η k = h.wt) (hob : t.ob η k = h.ob)
    (he : ∀ e ∈ kindE L a t η k o h, e.2.1 = e.2.2) : Acts F n P L Q a t η k o := by
  refine ⟨fun xs w' hx hf hH hC K hK => ?_⟩
  rw [hrd] at hH
  rw [hv, hwt, hob] at hK
  have ev : ∀ {x}, okR L a t k (t.cds k) x = true → (putsH xs L 0 a).eval x = rhoR L a t η k x := fun ho => eval_rho hx hf hC ho
  have nd : opOk L a t k o = true → noDefer o = true := fun h => by unfold opOk at h; simp only [Bool.and_eq_true] at h; exact h.1
  have cg : opOk L a t k o = true → execOp (putsH xs L 0 a).eval o = execOp (rhoR L a t η k) o := fun h => by
    unfold opOk at h
    simp only [Bool.and_eq_true] at h
    cases hl : opds o.op with
    | none => rw [hl] at h; cases h.2
    | some l =>
      rw [hl] at h
      exact execOp_congr hl fun x hxl => ev (List.all_eq_true.1 h.2 x hxl)
  cases h with
  | pv v =>
    simp only [kindE, List.mem_cons, List.not_mem_nil, or_false, forall_eq_or_imp, forall_eq, sE, sB] at he
    exact wp_val hF (nd he.1) (by rw [cg he.1]; exact congrFun he.2 w') (hK Env.zero w' (Step.refl w'))
  | tv v s h =>
    simp only [kindE, List.mem_cons, List.not_mem_nil, or_false, forall_eq_or_imp, forall_eq, sE, sB] at he
    exact wp_val hF (nd he.1) (by rw [cg he.1]; exact (congrFun he.2 w').trans (run_vS (h w'))) (hK Env.zero w' (Step.refl w'))
  | tc v j E b s h =>
    simp only [kindE, List.mem_cons, List.not_mem_nil, or_false, forall_eq_or_imp, forall_eq, sE, sB] at he
    obtain ⟨h1, h2, h3, h4⟩ := he
    have hE : E = b := by
      have := hC (j, b) (by simpa using h2)
      rw [h3] at this
      exact Value.bool.inj this
    exact wp_val hF (nd h1) (by rw [cg h1]; exact (congrFun h4 w').trans (run_vS (h hE w'))) (hK Env.zero w' (Step.refl w'))
  | pk v =>
    simp only [kindE] at he
    split at he
    · rename_i c x y hop
      simp only [List.mem_cons, List.not_mem_nil, or_false, forall_eq_or_imp, forall_eq, sE, sB] at he
      obtain ⟨h1, h2⟩ := he
      have hnd : noDefer o = true := by unfold noDefer; rw [hop]
      refine wp_val hF hnd ?_ (hK Env.zero w' (Step.refl w'))
      have hc := ev h1
      -- what is known where the test is true, or false
      have evC : ∀ {z : Operand} {E b : Bool}, rhoR L a t η k c = .bool E → E = b →
          okR L a t k (match (match c with | .tmp i => (match whoPuts i L 0 with | some j => if (t.D k).contains j then some j else none | none => none) | _ => none) with | some j => t.cds k ++ [(j, b)] | none => t.cds k) z = true → (putsH xs L 0 a).eval z = rhoR L a t η k z := by
        intro z E b hcE hEb hz
        refine eval_rho hx hf ?_ hz
        intro q hq
        cases c with
        | tmp i =>
          simp only at hq hcE
          simp only [rhoR] at hcE
          cases hw : whoPuts i L 0 with
          | none => rw [hw] at hq; exact hC q hq
          | some j =>
            rw [hw] at hq hcE
            simp only at hq hcE
            by_cases hd : (t.D k).contains j = true
            · rw [if_pos hd] at hq hcE
              simp only at hq
              rcases List.mem_append.1 hq with h3 | h3
              · exact hC q h3
              · obtain rfl := List.mem_singleton.1 h3
                rw [← hEb]
                exact hcE
            · rw [if_neg hd] at hq
              exact hC q hq
        | _ => exact hC q hq
      unfold pickE at h2
      simp only at h2
      split at h2
      · rename_i E hcE
        have hcv := hc.trans hcE
        split at h2
        · obtain ⟨hok, X, hX, rfl⟩ := andE_spec h2
          cases E with
          | false => exact run_pickO hop hcv rfl
          | true => exact run_pickO hop hcv ((evC hcE rfl hok).trans hX)
        · split at h2
          · obtain ⟨hok, Y, hY, rfl⟩ := orE_spec h2
            cases E with
            | false => exact run_pickO hop hcv ((evC hcE rfl hok).trans hY)
            | true => exact run_pickO hop hcv rfl
          · cases h2
      · cases h2
    · exact (sB_false he).elim
  | dead v =>
    simp only [kindE] at he
    split at he
    · rename_i j b hl
      simp only [List.mem_cons, List.not_mem_nil, or_false, forall_eq, sE] at he
      have hm := List.mem_of_getLast? hl
      have := hC (j, b) hm
      rw [he] at this
      cases b <;> cases this
    · exact (sB_false he).elim
  | ld v p off =>
    simp only [kindE] at he
    split at he
    · rename_i T x g cs ty hop hat
      simp only [List.mem_cons, List.not_mem_nil, or_false, forall_eq_or_imp, forall_eq, sE, sB, ptrV] at he
      obtain ⟨h1, h2, h3, h4⟩ := he
      have hb : Blk w' g ty cs := has_at1 (show Has ((at1 p fun p => t.at η p k).map (·.2)) w' from hH) hat
      refine wp_val hF (by unfold noDefer; rw [hop]) ?_ (hK Env.zero w' (Step.refl w'))
      unfold execOp
      simp only [hop, (ev h1).trans h2, Instr.loadAt, Instr.sureAddr, Sem.run_bind, Sem.run_pure, Result.andThen_ok, run_loadVar_cell (congrFun h4 w') ((hb.cell off).trans h3)]
      rfl
    · exact (sB_false he).elim
  | lt v p off g cs ty h =>
    simp only [kindE] at he
    split at he
    · rename_i T x hop
      simp only [List.mem_cons, List.not_mem_nil, or_false, forall_eq_or_imp, forall_eq, sE, sB, ptrV] at he
      obtain ⟨h1, h2, h4⟩ := he
      have hb : Blk w' g ty cs := has_1 (show Has (([(p, (g, .cells cs ty (0, 0)))] : Wr).map (·.2)) w' from hH)
      refine wp_val hF (by unfold noDefer; rw [hop]) ?_ (hK Env.zero w' (Step.refl w'))
      unfold execOp
      simp only [hop, (ev h1).trans h2, Instr.loadAt, Instr.sureAddr, Sem.run_bind, Sem.run_pure, Result.andThen_ok, run_loadVar_cell (congrFun h4 w') ((hb.cell off).trans h)]
      rfl
    · exact (sB_false he).elim
  | ls l p off =>
    simp only [kindE] at he
    split at he
    · rename_i T x g cs ty hop hat
      simp only [List.mem_cons, List.not_mem_nil, or_false, forall_eq_or_imp, forall_eq, sE, sB, ptrV] at he
      obtain ⟨h1, h2, h3, h4, h5⟩ := he
      refine wp_val hF (by unfold noDefer; rw [hop]) ?_ (hK Env.zero w' (Step.refl w'))
      unfold execOp
      simp only [hop, (ev h1).trans h2, Instr.loadAt, Instr.sureAddr, Sem.run_bind, Sem.run_pure, Result.andThen_ok, run_ls (has_at1 (show Has ((at1 p fun p => t.at η p k).map (·.2)) w' from hH) hat) h3 h4 h5]
      rfl
    · exact (sB_false he).elim
  | lr p cs T h =>
    simp only [kindE] at he
    split at he
    · rename_i T' x g cs' ty hop hat
      simp only [List.mem_cons, List.not_mem_nil, or_false, forall_eq_or_imp, forall_eq, sE, sB, ptrV] at he
      obtain ⟨h1, h2, h3, h4, h5⟩ := he
      subst h3
      subst h4
      refine wp_val hF (by unfold noDefer; rw [hop]) ?_ (hK Env.zero w' (Step.refl w'))
      unfold execOp
      simp only [hop, (ev h1).trans h2, Instr.loadAt, Instr.sureAddr, Sem.run_bind, Sem.run_pure, Result.andThen_ok, run_lr (has_at1 (show Has ((at1 p fun p => t.at η p k).map (·.2)) w' from hH) hat) h5 h]
      rfl
    · exact (sB_false he).elim
  | al p T cs =>
    simp only [kindE] at he
    split at he
    · rename_i T' hop
      simp only [List.mem_cons, List.not_mem_nil, or_false, forall_eq_or_imp, forall_eq, sE, ptrV] at he
      obtain ⟨h1, h2⟩ := he
      subst h1
      refine wp_val hF (by unfold noDefer; rw [hop]) ?_ (hK ⟨fun _ => w'.heap.size, fun _ => [], fun _ => 0⟩ _ (Step.alloc w' (.cells cs T')))
      unfold execOp
      have := congrFun h2 w'
      simp only [hop, Sem.run_bind, this, Result.andThen_ok, Sem.run_pure]
      rfl
    · exact (sB_false he).elim
  | bx p T v =>
    simp only [kindE] at he
    split at he
    · rename_i T' x hop
      simp only [List.mem_cons, List.not_mem_nil, or_false, forall_eq_or_imp, forall_eq, sE, sB] at he
      obtain ⟨h1, h2, h3⟩ := he
      subst h1
      refine wp_val hF (by unfold noDefer; rw [hop]) ?_ (hK ⟨fun _ => w'.heap.size, fun _ => [], fun _ => 0⟩ _ (Step.alloc w' (.cells v.cells T')))
      unfold execOp
      simp only [hop, (ev h2).trans h3, Sem.run_bind, show (Instr.box T' v).run P w' = .ok (.pointer (some ⟨w'.heap.size, 0, none⟩)) (w'.alloc (.cells v.cells T')) from rfl, Result.andThen_ok, Sem.run_pure]
      rfl
    · exact (sB_false he).elim
  | st p g off ty v cs' =>
    simp only [kindE] at he
    split at he
    · rename_i T x y g' cs ty' hop hat
      simp only [List.mem_cons, List.not_mem_nil, or_false, forall_eq_or_imp, forall_eq, sE, sB, ptrV] at he
      obtain ⟨h1, h2, h3, h4, h5, h6, h7, h8, h9⟩ := he
      cases h3
      subst h6
      have hb := has_at1 (show Has ((at1 p fun p => t.at η p k).map (·.2)) w' from hH) hat
      refine wp_skip hF (by unfold noDefer; rw [hop]) ?_ (hK Env.zero _ (Step.setc v hb))
      unfold execOp
      simp only [hop, (ev h1).trans h4, (ev h2).trans h5, Instr.storeAt, Instr.sureAddr, Sem.run_bind, Sem.run_pure, Result.andThen_ok, run_store1 hb (Nat.blt_eq ▸ h7) h8 h9]
    · exact (sB_false he).elim
  | sw p g off ty v cs cs' h hi =>
    simp only [kindE] at he
    split at he
    · rename_i T x y hop
      simp only [List.mem_cons, List.not_mem_nil, or_false, forall_eq_or_imp, forall_eq, sE, sB, ptrV] at he
      obtain ⟨h1, h2, h4, h5, h8, h9⟩ := he
      subst h
      have hb := has_1 (show Has (([(p, (g, .cells cs ty (0, 0)))] : Wr).map (·.2)) w' from hH)
      refine wp_skip hF (by unfold noDefer; rw [hop]) ?_ (hK Env.zero _ (Step.setc v hb))
      unfold execOp
      simp only [hop, (ev h1).trans h4, (ev h2).trans h5, Instr.storeAt, Instr.sureAddr, Sem.run_bind, Sem.run_pure, Result.andThen_ok, run_store1 hb hi h8 h9]
    · exact (sB_false he).elim
  | ss p g off ty l cs' =>
    simp only [kindE] at he
    split at he
    · rename_i T x y g' cs ty' hop hat
      simp only [List.mem_cons, List.not_mem_nil, or_false, forall_eq_or_imp, forall_eq, sE, sB, ptrV] at he
      obtain ⟨h1, h2, h3, h4, h5, h6, h7, h8, h9⟩ := he
      cases h3
      have hb := has_at1 (show Has ((at1 p fun p => t.at η p k).map (·.2)) w' from hH) hat
      have h10 : cs' = (cs.toList.take off ++ l ++ cs.toList.drop (off + l.length)).toArray := by rw [h6]
      subst h10
      have hr0 := run_storeCells_at P g off ty l 0 cs w' hb (Nat.le_of_ble_eq_true h7) (fun v hv => (List.all_eq_true.1 h8) v hv)
      have hr : (storeVar T ⟨g, off, none⟩ (.agg l.toArray)).run P w' = .ok () (w'.setRow g (cs.toList.take off ++ l ++ cs.toList.drop (off + l.length)).toArray) := by
        cases hq : P.info? T with
        | none => simp [hq] at h9
        | some inf =>
          have hs2 : inf.size = l.length := by simpa [hq] using h9
          unfold storeVar
          simp only [sizeOf, typeInfo, Value.cells, Sem.run_bind]
          simp [hq, hs2, hr0]
      refine wp_skip hF (by unfold noDefer; rw [hop]) ?_ (hK Env.zero _ (Step.setRow _ hb))
      unfold execOp
      simp only [hop, (ev h1).trans h4, (ev h2).trans h5, Instr.storeAt, Instr.sureAddr, Sem.run_bind, Sem.run_pure, Result.andThen_ok, hr]
    · exact (sB_false he).elim
  | sr p g ty T cs cs' h hs h1' =>
    simp only [kindE] at he
    split at he
    · rename_i T' x y hop
      simp only [List.mem_cons, List.not_mem_nil, or_false, forall_eq_or_imp, forall_eq, sE, sB, ptrV] at he
      obtain ⟨h1, h2, h3, h4, h5⟩ := he
      subst h3
      have hb := has_1 (show Has (([(p, (g, .cells cs ty (0, 0)))] : Wr).map (·.2)) w' from hH)
      have hr := run_storeVar_row (P := P) w' g ty T' cs cs' hb h hs.symm h1'
      refine wp_skip hF (by unfold noDefer; rw [hop]) ?_ (hK Env.zero _ (Step.setRow cs' hb))
      unfold execOp
      simp only [hop, (ev h1).trans h4, (ev h2).trans h5, Instr.storeAt, Instr.sureAddr, Sem.run_bind, Sem.run_pure, Result.andThen_ok, hr]
    · exact (sB_false he).elim
  | cl f args v rd O wt he' h =>
    simp only [kindE] at he
    split at he
    · rename_i f' xs' ats hop
      simp only [List.mem_cons, List.not_mem_nil, or_false, forall_eq_or_imp, forall_eq, sE, sB] at he
      obtain ⟨h1, h2, h3⟩ := he
      subst h1
      have hm : xs'.map (putsH xs L 0 a).eval = args := by
        rw [map_congrA (ρ' := rhoR L a t η k) fun x hx => ev (List.all_eq_true.1 h2 x hx)]
        apply Array.toList_inj.1
        rw [Array.toList_map]
        exact h3
      refine wp_call hF hop he' hm ((h w' hH).mono ?_)
      rintro e w'' ⟨E, rfl, hst⟩
      exact ⟨_, rfl, hK E w'' hst⟩
    · exact (sB_false he).elim
  | gn s v rd O wt h =>
    simp only [kindE, List.mem_cons, List.not_mem_nil, or_false, forall_eq_or_imp, forall_eq, sE, sB] at he
    obtain ⟨E, w'', hr, hst⟩ := h w' hH
    rcases hr with hr | ⟨hr, hu⟩
    · exact wp_val hF (nd he.1) (by rw [cg he.1]; exact (congrFun he.2 w').trans hr) (hK E w'' hst)
    · refine wp_skip hF (nd he.1) (by rw [cg he.1]; exact (congrFun he.2 w').trans hr) ?_
      have := hK E w'' hst
      rw [show (Hint.gn s v rd O wt h).val E = undef from hu] at this
      exact this
end

section
variable {F : Fence} {n : Nat} {P : Program} {L : List Oper} {Q : Exit → Act → World → Prop} {a : Act} {R : List Nat} {base : World}
/-- The deeds' order. -/
def depR (drawn : Bool) (L : List Oper) : List (List Nat) := if drawn then depL L.length L [] else (List.range L.length).map List.range
theorem reOk_of (hF : Fence.free F) {DL : List (List Nat)} {CL : List (List (Nat × Bool))} {L0 : Objs} {m : Nat} {hs : Envs → List (Hint F n P)}
    (he : ∀ η, (allE L a (toldR DL CL L0 m hs) η 0 L (hs η)).map Eqn.lhs = (allE L a (toldR DL CL L0 m hs) η 0 L (hs η)).map Eqn.rhs) : ReOk F n P L Q a (toldR DL CL L0 m hs) := by
  have key : ∀ η k o, L[k]? = some o → ∃ h, (hs η)[k]? = some h ∧ ∀ e ∈ genE L a (toldR DL CL L0 m hs) η k o ++ kindE L a (toldR DL CL L0 m hs) η k o h, e.2.1 = e.2.2 := by
    intro η k o ho
    have := allE_get (Eqn.all (he η)) k o ho
    rwa [Nat.zero_add] at this
  have keyl : ∀ η k, k < L.length → ∃ o h, L[k]? = some o ∧ (hs η)[k]? = some h ∧ ∀ e ∈ genE L a (toldR DL CL L0 m hs) η k o ++ kindE L a (toldR DL CL L0 m hs) η k o h, e.2.1 = e.2.2 := by
    intro η k hk
    obtain ⟨h, h1, h2⟩ := key η k L[k] (List.getElem?_eq_getElem hk)
    exact ⟨_, h, List.getElem?_eq_getElem hk, h1, h2⟩
  refine ⟨?_, ?_, ?_, ?_, ?_, ?_, ?_, ?_, ?_, ?_, ?_⟩
  · intro η k o ho
    obtain ⟨h, h1, h2⟩ := key η k o ho
    refine kind_ok hF h ?_ ?_ ?_ ?_ (fun e hm => h2 e (List.mem_append_right _ hm))
    · funext E; simp only [toldR, h1]
    · simp only [toldR, h1]; rfl
    · funext E; simp only [toldR, h1]
    · simp only [toldR, h1]
  · intro η k o ho
    obtain ⟨h, _, h2⟩ := key η k o ho
    exact (gen_ok h2).1
  · intro k hk
    obtain ⟨o, h, _, _, h2⟩ := keyl (fun _ => Env.zero) k hk
    exact (gen_ok h2).2.1
  · intro η k hk
    obtain ⟨o, h, _, _, h2⟩ := keyl η k hk
    exact (gen_ok h2).2.2.1
  · intro η k hk
    obtain ⟨o, h, _, _, h2⟩ := keyl η k hk
    exact (gen_ok h2).2.2.2.1
  · intro η k hk
    obtain ⟨o, h, _, _, h2⟩ := keyl η k hk
    exact (gen_ok h2).2.2.2.2.1
  · intro η k hk
    obtain ⟨o, h, _, _, h2⟩ := keyl η k hk
    exact (gen_ok h2).2.2.2.2.2.1
  · intro η k hk
    obtain ⟨o, h, _, _, h2⟩ := keyl η k hk
    exact (gen_ok h2).2.2.2.2.2.2.1
  · intro η k hk
    obtain ⟨o, h, _, _, h2⟩ := keyl η k hk
    exact (gen_ok h2).2.2.2.2.2.2.2.1
  · intro η k hk
    obtain ⟨o, h, _, _, h2⟩ := keyl η k hk
    exact (gen_ok h2).2.2.2.2.2.2.2.2.1
  · intro η k hk
    obtain ⟨o, h, _, _, h2⟩ := keyl η k hk
    exact (gen_ok h2).2.2.2.2.2.2.2.2.2
/-- The slots behind the region: values without a guard are told. -/
def valE (o : Oper) (h : Hint F n P) (E : Env) (y : Value) : Value := match o.guard with | none => h.val E | some _ => y
def putE : List Oper → List (Hint F n P) → Nat → Envs → (Nat → Value) → Act → Act
  | o :: os, h :: hs, k, η, ys, a => putE os hs (k + 1) η ys (a.put o.dst (valE o h (η k) (ys k)))
  | _, _, _, _, _, a => a
theorem putE_cons {o : Oper} {os : List Oper} {h : Hint F n P} {hs : List (Hint F n P)} {k : Nat} {η : Envs} {ys : Nat → Value} {a : Act} : putE (o :: os) (h :: hs) k η ys a = putE os hs (k + 1) η ys (a.put o.dst (valE o h (η k) (ys k))) := rfl
theorem putE_nil {hs : List (Hint F n P)} {k : Nat} {η : Envs} {ys : Nat → Value} {a : Act} : putE [] hs k η ys a = a := rfl
theorem putE_eq {η : Envs} {ys : Nat → Value} {f : Nat → Value} : ∀ (os : List Oper) (hs : List (Hint F n P)) (k : Nat) (a : Act), (∀ i o, os[i]? = some o → ∃ h, hs[i]? = some h ∧ f (k + i) = valE o h (η (k + i)) (ys (k + i))) → putE os hs k η ys a = putsH f os k a
  | [], hs, k, a, _ => rfl
  | o :: os, [], k, a, h => by
    obtain ⟨h, h1, _⟩ := h 0 o rfl
    cases h1
  | o :: os, g :: hs, k, a, h => by
    obtain ⟨h', h1, h2⟩ := h 0 o rfl
    simp only [List.getElem?_cons_zero, Option.some.injEq] at h1
    subst h1
    rw [putE_cons, putE_eq os hs (k + 1) _ fun i p hp => by
      have := h (i + 1) p (by simpa using hp)
      rwa [List.getElem?_cons_succ, show k + (i + 1) = k + 1 + i by omega] at this]
    rw [Nat.add_zero] at h2
    rw [putsH, h2]
theorem wpIn_region_re [hF : FreeF F] {id : Nat} {drawn : Bool} {w : World} {L0 : Objs} (m : Nat) (hs : Envs → List (Hint F n P)) (Le : Envs → Objs → Objs) (hm : P.follows .mixedOrders = true) (OW : Hid (OwnS R base L0 w))
    (he : ∀ η, ((allE L a (toldR (depR drawn L) (cdsL L []) L0 m hs) η 0 L (hs η)).map Eqn.lhs, shapeB drawn L (fun k => (depR drawn L).getD k []), Nat.ble L0.length m, (List.range m).map (fun p => (toldR (depR drawn L) (cdsL L []) L0 m hs).at η p L.length)) =
      ((allE L a (toldR (depR drawn L) (cdsL L []) L0 m hs) η 0 L (hs η)).map Eqn.rhs, true, true, (Le η L0).map some))
    (hend : ∀ (η : Envs) (ys : Nat → Value) (w' : World), Hid (OwnS R base (Le η L0) w') → Q .normal (putE L (hs η) 0 η ys a) w') : (Code.region id L.toArray drawn).wpIn F n P Q a w := by
  have h1 := fun η => congrArg (·.1) (he η)
  have h2 : shapeB drawn L (fun k => (depR drawn L).getD k []) = true := congrArg (fun x => x.2.1) (he fun _ => Env.zero)
  have h4 := fun η => congrArg (fun x => x.2.2.2) (he η)
  simp only at h1 h4
  refine wpIn_region_reOk (t := toldR (depR drawn L) (cdsL L []) L0 m hs) hm (reOk_of hF.out h1) hF.out h2 OW (fun η => Le η L0) h4 ?_
  intro η xs w' hx hO
  have hh := hend η xs w' hO
  rw [putE_eq (f := xs) L (hs η) 0 a fun i o ho => by
    obtain ⟨h, e1, e2⟩ := allE_get (Eqn.all (h1 η)) i o ho
    refine ⟨h, e1, ?_⟩
    rw [Nat.zero_add] at e2 ⊢
    unfold valE
    cases hg : o.guard with
    | some _ => rfl
    | none =>
      have hil : i < L.length := (List.getElem?_eq_some_iff.1 ho).1
      have g1 : (toldR (depR drawn L) (cdsL L []) L0 m hs).cds i = [] := by
        have := (gen_ok e2).1
        unfold guardOk at this
        rw [hg] at this
        exact this
      have hh : (toldR (depR drawn L) (cdsL L []) L0 m hs).Hold η i := fun c hc => by rw [g1] at hc; simp at hc
      rcases hx i hil with ⟨_, h6⟩ | ⟨h6, _⟩
      · rw [h6]
        simp only [Told.vs, toldR, e1]
      · exact absurd hh h6] at hh
  exact hh
end
end Go.Proofs.Ytkeheickaogpiaa
namespace Go.Proofs.Ytkeheickaogpiaa
open Go Go.RowKit Go.Shelf

def sBin (op : BinOp) (T : TypeId) (x y : Operand) (vx vy : Value) : Sem Value := do eqGuard op T x y vx vy; Go.binOp op T vx vy
section
variable {R : List Nat} {base W W' w : World} {L L' R0 : Objs}
theorem OwnS.start (H : Has R0 w) : OwnS (R0.map (·.1)) w R0 w :=
  ⟨H.obj, H.nd, fun x hx => .inl (List.mem_map.2 ⟨x, hx, rfl⟩), rfl, rfl, rfl, Nat.le_refl _, fun _ _ _ => rfl⟩
theorem OwnS.get (h : OwnS R base L W) {k : Nat} {x : Nat × Obj} (hk : L[k]? = some x) : W.heap[x.1]? = some x.2 := h.obj x (List.mem_of_getElem? hk)
theorem OwnS.lt (h : OwnS R base L W) {x : Nat × Obj} (hx : x ∈ L) : x.1 < W.heap.size := (Array.getElem?_eq_some_iff.1 (h.obj x hx)).1
theorem OwnS.cast (h : OwnS R base L W) (e : L = L') : OwnS R base L' W := by rwa [e] at h
theorem OwnS.sub (h : OwnS R base L W) (hs : L'.Sublist L) : OwnS R base L' W := ⟨fun x hx => h.obj x (hs.subset hx), h.nd.sublist hs, fun x hx => h.lo x (hs.subset hx), h.os, h.tape, h.output, h.size, h.far⟩
/-- What comes behind the first n is forgotten. -/
theorem OwnS.take (n : Nat) (h : OwnS R base L W) : OwnS R base (L.take n) W := h.sub (List.take_sublist _ _)
/-- Just what is named, in that order. -/
theorem OwnS.pick (h : OwnS R base L W) (ps : List Nat) (N : Objs) (he : (nodupB ps, ps.map (fun p => L[p]?)) = (true, N.map some)) : OwnS R base N W := by
  have h1 : nodupB ps = true := congrArg (·.1) he
  have h2 : ps.map (fun p => L[p]?) = N.map some := congrArg (·.2) he
  have hl : ps.length = N.length := by simpa using congrArg List.length h2
  have hat : ∀ i (hi : i < ps.length) (hj : i < N.length), L[ps[i]]? = some N[i] := by
    intro i hi hj
    have := congrArg (fun l => l[i]?) h2
    simpa [hi, hj] using this
  have hmem : ∀ x ∈ N, x ∈ L := by
    intro x hx
    obtain ⟨i, hi, rfl⟩ := List.getElem_of_mem hx
    exact List.mem_of_getElem? (hat i (by omega) hi)
  refine ⟨fun x hx => h.obj x (hmem x hx), ?_, fun x hx => h.lo x (hmem x hx), h.os, h.tape, h.output, h.size, h.far⟩
  rw [List.pairwise_iff_getElem]
  intro i j hi hj hij
  have hi' : i < ps.length := by omega
  have hj' : j < ps.length := by omega
  have hne : ps[i] ≠ ps[j] := by
    have hnd := nodupB_spec h1
    unfold List.Nodup at hnd
    exact (List.pairwise_iff_getElem.1 hnd) i j hi' hj' hij
  obtain ⟨h5, h6⟩ := List.getElem?_eq_some_iff.1 (hat i hi' hi)
  obtain ⟨h7, h8⟩ := List.getElem?_eq_some_iff.1 (hat j hj' hj)
  rw [← h6, ← h8]
  have hp := List.pairwise_iff_getElem.1 h.nd
  rcases Nat.lt_or_gt_of_ne hne with l | l
  · exact hp _ _ h5 h7 l
  · exact Ne.symm (hp _ _ h7 h5 l)
/-- What a call tells of the memory: O may be other ones now, those at ks (of what it was given) are as they were; N is told. -/
theorem OwnS.fin (H : Has R0 w) (h : OwnS (R0.map (·.1)) w L W) (O : List Nat) (N : Objs) (ps ks : List Nat)
    (he : (nodupB ps, ps.map (fun p => L[p]?), ks.map (fun p => L[p]?), ps.all (fun p => !ks.contains p), O) = (true, N.map some, ks.map (fun p => R0[p]?), true, ((List.range R0.length).filter fun i => !ks.contains i).filterMap fun i => (R0[i]?).map (·.1))) : Step O N w W := by
  have h1 : nodupB ps = true := congrArg (·.1) he
  have h2 : ps.map (fun p => L[p]?) = N.map some := congrArg (·.2.1) he
  have h3 : ks.map (fun p => L[p]?) = ks.map (fun p => R0[p]?) := congrArg (·.2.2.1) he
  have h4 : ps.all (fun p => !ks.contains p) = true := congrArg (·.2.2.2.1) he
  have h5 : O = ((List.range R0.length).filter fun i => !ks.contains i).filterMap fun i => (R0[i]?).map (·.1) := congrArg (·.2.2.2.2) he
  have hp := h.pick ps N (by rw [h1, h2])
  have inO : ∀ i (hi : i < R0.length), i ∉ ks → R0[i].1 ∈ O := by
    intro i hi hk
    rw [h5, List.mem_filterMap]
    exact ⟨i, List.mem_filter.2 ⟨List.mem_range.2 hi, by simpa using hk⟩, by rw [List.getElem?_eq_getElem hi]; rfl⟩
  have at3 : ∀ i ∈ ks, L[i]? = R0[i]? := by
    intro i hi
    obtain ⟨j, hj, rfl⟩ := List.getElem_of_mem hi
    have := congrArg (fun l => l[j]?) h3
    simpa [hj] using this
  have hl : ps.length = N.length := by simpa using congrArg List.length h2
  refine ⟨h.os, h.tape, h.output, h.size, hp.obj, fun x hx => ?_, hp.nd, fun b hb hn => ?_⟩
  · rcases hp.lo x hx with h6 | h6
    · refine .inl ?_
      obtain ⟨y, hy, e⟩ := List.mem_map.1 h6
      obtain ⟨i, hi, rfl⟩ := List.getElem_of_mem hy
      by_cases hk : i ∈ ks
      · exfalso
        have h7 := at3 i hk
        rw [List.getElem?_eq_getElem hi] at h7
        obtain ⟨j, hj, rfl⟩ := List.getElem_of_mem hx
        have h8 := congrArg (fun l => l[j]?) h2
        have hj' : j < ps.length := by omega
        simp only [List.getElem?_map, List.getElem?_eq_getElem hj', List.getElem?_eq_getElem hj, Option.map_some, Option.some.injEq] at h8
        have h9 := List.all_eq_true.1 h4 ps[j] (List.getElem_mem hj')
        have hne : ps[j] ≠ i := fun e => by rw [e] at h9; simp [hk] at h9
        obtain ⟨q1, q2⟩ := List.getElem?_eq_some_iff.1 h7
        obtain ⟨q3, q4⟩ := List.getElem?_eq_some_iff.1 h8
        have hpw := List.pairwise_iff_getElem.1 h.nd
        have hcon : (L[ps[j]]).1 = (L[i]).1 := by rw [q4, q2, e]
        rcases Nat.lt_or_gt_of_ne hne with l | l
        · exact hpw _ _ q3 q1 l hcon
        · exact hpw _ _ q1 q3 l hcon.symm
      · rw [← e]; exact inO i hi hk
    · exact .inr h6
  · by_cases hm : b ∈ R0.map (·.1)
    · obtain ⟨y, hy, e⟩ := List.mem_map.1 hm
      obtain ⟨i, hi, rfl⟩ := List.getElem_of_mem hy
      by_cases hk : i ∈ ks
      · have h7 := at3 i hk
        rw [List.getElem?_eq_getElem hi] at h7
        rw [← e]
        exact (h.get h7).trans (H.obj _ (List.getElem_mem hi)).symm
      · exact absurd (inO i hi hk) (by rw [e]; exact hn)
    · exact h.far b hb hm
theorem Step.b (h : Step [] [] w W) : Below w.heap.size w W := ⟨h.os, h.tape, h.output, h.size, fun b hb => h.far b hb (by simp)⟩
theorem OwnS.done (h : OwnS [] base L W) : Below base.heap.size base W := ⟨h.os, h.tape, h.output, h.size, fun b hb => h.far b hb (by simp)⟩
theorem has_nil {w : World} : Has [] w := ⟨fun _ h => by simp at h, List.Pairwise.nil⟩
end
section
variable {F : Fence} {n : Nat} {P : Program} {f : FuncId} {args : Array Value} {w' : World} {v : Value}
/-- Contracts that keep all blocks. -/
theorem cB (h : CallsIn F n P f args w' fun e w'' => e = .returned v ∧ Below w'.heap.size w' w'') : CallsIn F n P f args w' fun e w'' => ∃ E : Env, e = .returned ((fun _ => v) E) ∧ Step [] ((([] : Wr)).map (·.2)) w' w'' :=
  h.mono fun _ _ h => ⟨Env.zero, h.1, Step.below h.2⟩
theorem cS (h : CallsIn F n P f args w' fun e w'' => e = .returned v ∧ w' = w'') : CallsIn F n P f args w' fun e w'' => ∃ E : Env, e = .returned ((fun _ => v) E) ∧ Step [] ((([] : Wr)).map (·.2)) w' w'' :=
  h.mono fun _ _ h => ⟨Env.zero, h.1, by rw [← h.2]; exact Step.refl _⟩
end

/-- Results: a slot's; a cell's; a struct's; a row's. -/
inductive RV (P : Program) : Type
  | t (v : Value)
  | c (v : Value) (k : Nat)
  | s (l : List Value) (k : Nat)
  | r (cs : Array Value) (k : Nat) (T : TypeId) (h : (P.info? T).map (·.size) = some cs.size)
def RV.val {P : Program} : RV P → Value
  | t v => v
  | c v _ => v
  | s l _ => .agg l.toArray
  | r cs _ _ _ => .agg cs
section
variable {P : Program} {L : Objs} {tmps : Array Value}
def resE (P : Program) (L : Objs) (tmps : Array Value) : List ResultVar → List (RV P) → List Eqn
  | [], [] => []
  | .tmp i :: rs, .t v :: vs => sE (tmps.getD i undef) v :: resE P L tmps rs vs
  | .cell p T :: rs, .c v k :: vs => (match L[k]? with
    | some (g, .cells cs _ (0, 0)) => [sE (tmps.getD p undef) (ptrV g 0), sE cs[0]? (some v), sE (fun w => (isAgg T).run P w) (fun w => .ok false w)]
    | _ => [sB false]) ++ resE P L tmps rs vs
  | .cell p T :: rs, .s l k :: vs => (match L[k]? with
    | some (g, .cells cs _ (0, 0)) => [sE (tmps.getD p undef) (ptrV g 0), sE ((cs.toList.drop 0).take l.length) l, sB (aggB P T), sE ((P.info? T).map (·.size)) (some l.length)]
    | _ => [sB false]) ++ resE P L tmps rs vs
  | .cell p T :: rs, .r cs k T' _ :: vs => (match L[k]? with
    | some (g, .cells cs' _ (0, 0)) => [sE (tmps.getD p undef) (ptrV g 0), sE cs' cs, sE T T', sB (aggB P T)]
    | _ => [sB false]) ++ resE P L tmps rs vs
  | _, _ => [sB false]
def outV : List (RV P) → Value
  | [v] => v.val
  | vs => .tuple (vs.map RV.val).toArray
def resF (tmps : Array Value) : ResultVar → Sem Value
  | .tmp t => pure (tmps.getD t undef)
  | .cell a t => do loadVar t (← asAddr (tmps.getD a undef))
theorem run_resF {p g : Nat} {T : TypeId} {v : Value} {W : World} (h : tmps.getD p undef = ptrV g 0) (hr : (loadVar T ⟨g, 0, none⟩).run P W = .ok v W) : (resF tmps (.cell p T)).run P W = .ok v W := by
  have h' : tmps[p]?.getD undef = .pointer (some ⟨g, 0, none⟩) := by simpa [ptrV] using h
  simp [resF, h', asAddr, hr]
theorem resF_all {R : List Nat} {base W : World} (hO : OwnS R base L W) : ∀ (rs : List ResultVar) (vs : List (RV P)), (∀ e ∈ resE P L tmps rs vs, e.2.1 = e.2.2) → (rs.mapM (resF tmps)).run P W = .ok (vs.map RV.val) W := by
  intro rs
  induction rs with
  | nil =>
    intro vs he
    cases vs with
    | nil => simp
    | cons v vs => exact (sB_false (by simpa [resE] using he)).elim
  | cons x rs ih =>
    intro vs he
    cases vs with
    | nil => exact (sB_false (by simpa [resE] using he)).elim
    | cons v vs =>
      have tail : ∀ {w : Value}, (resF tmps x).run P W = .ok w W → v.val = w → (∀ e ∈ resE P L tmps rs vs, e.2.1 = e.2.2) → ((x :: rs).mapM (resF tmps)).run P W = .ok ((v :: vs).map RV.val) W := by
        intro w h1 h2 h3
        rw [List.mapM_cons]
        simp only [Sem.run_bind, h1, ih vs h3, Result.andThen_ok, Sem.run_pure, List.map_cons, h2]
      cases x with
      | tmp i =>
        cases v with
        | t v =>
          simp only [resE, List.mem_cons, forall_eq_or_imp, sE] at he
          exact tail (w := v) (by simp only [resF, Sem.run_pure]; rw [he.1]) rfl he.2
        | _ => exact (sB_false (by simpa only [resE] using he)).elim
      | cell p T =>
        cases v with
        | t v => exact (sB_false (by simpa only [resE] using he)).elim
        | c v k =>
          simp only [resE] at he
          split at he
          · rename_i g cs ty hat
            simp only [List.mem_append, List.mem_cons, List.not_mem_nil, or_false, or_imp, forall_and, forall_eq, sE] at he
            obtain ⟨⟨h1, h2, h3⟩, h4⟩ := he
            have hb : Blk W g ty cs := hO.get hat
            exact tail (run_resF h1 (run_loadVar_cell (congrFun h3 W) ((hb.cell 0).trans h2))) rfl h4
          · exact (sB_false fun e he' => he e (List.mem_append_left _ he')).elim
        | s l k =>
          simp only [resE] at he
          split at he
          · rename_i g cs ty hat
            simp only [List.mem_append, List.mem_cons, List.not_mem_nil, or_false, or_imp, forall_and, forall_eq, sE, sB] at he
            obtain ⟨⟨h1, h2, h3, h5⟩, h4⟩ := he
            exact tail (run_resF h1 (run_ls (hO.get hat) h2 h3 h5)) rfl h4
          · exact (sB_false fun e he' => he e (List.mem_append_left _ he')).elim
        | r cs k T' h =>
          simp only [resE] at he
          split at he
          · rename_i g cs' ty hat
            simp only [List.mem_append, List.mem_cons, List.not_mem_nil, or_false, or_imp, forall_and, forall_eq, sE, sB] at he
            obtain ⟨⟨h1, h2, h3, h5⟩, h4⟩ := he
            subst h2
            subst h3
            exact tail (run_resF h1 (run_lr (hO.get hat) h5 h)) rfl h4
          · exact (sB_false fun e he' => he e (List.mem_append_left _ he')).elim
theorem resS {R : List Nat} {base W : World} {fn : Func} (hO : OwnS R base L W) (vs : List (RV P)) (he : (resE P L tmps fn.results.toList vs).map Eqn.lhs = (resE P L tmps fn.results.toList vs).map Eqn.rhs) : (results fn tmps).run P W = .ok (outV vs) W := by
  have h := resF_all hO _ _ (Eqn.all he)
  have h2 : (fn.results.mapM (resF tmps)).run P W = .ok (vs.map RV.val).toArray W := by
    rw [Array.mapM_eq_mapM_toList, map_eq_pure_bind, Sem.run_bind, h]
    simp only [Result.andThen_ok, Sem.run_pure]
  unfold results
  show Sem.run P (bind (fn.results.mapM (resF tmps)) _) W = _
  rw [Sem.run_bind, h2]
  simp only [Result.andThen_ok, Sem.run_pure]
  cases vs with
  | nil => rfl
  | cons v vs =>
    cases vs with
    | nil => rfl
    | cons u vs => rw [dif_neg (by simp)]; rfl
end
/-- A call's end: what lies where the results lie, and what has become of the memory. -/
theorem leavesS {F : Fence} {n : Nat} {P : Program} {fn : Func} {tmps : Array Value} {R : Ending → World → Prop} {R1 : List Nat} {base : World} {L : Objs} {W : World} (OW : Hid (OwnS R1 base L W)) (vs : List (RV P)) (he : (resE P L tmps fn.results.toList vs).map Eqn.lhs = (resE P L tmps fn.results.toList vs).map Eqn.rhs)
    (h : OwnS R1 base L W → R (.returned (outV vs)) W) : LeavesInM F n P fn tmps R [] .returning W := ⟨_, resS OW.out vs he, h OW.out⟩
end Go.Proofs.Ytkeheickaogpiaa
namespace Go.Proofs.Ytkeheickaogpiaa
open Go Go.RowKit Go.Shelf
section
variable {P : Program} {T : TypeId} {x y : Operand} {w : World}
theorem bin_shr_i64 {yk : IntKind} {a : Int} (n : Nat) (hn : n ≤ 64) : (sBin .shr T x y (.int .i64 a) (.int yk (n : Int))).run P w = .ok (.int .i64 (a / 2 ^ n)) w := by
  unfold sBin
  simp only [Sem.run_bind, eqGuard_shr, Sem.run_pure, Result.andThen_ok, binOp_shr, shift_shr_i64 _ _ _ (Int.natCast_nonneg n) (by omega), Int.toNat_natCast]
theorem bin_shr_u64 {yk : IntKind} {a : Nat} (n : Nat) (hn : n ≤ 64) : (sBin .shr T x y (.int .u64 (a : Int)) (.int yk (n : Int))).run P w = .ok (.int .u64 ((a / 2 ^ n : Nat) : Int)) w := by
  unfold sBin
  simp only [Sem.run_bind, eqGuard_shr, Sem.run_pure, Result.andThen_ok, binOp_shr, shift_shr_u64 _ _ _ (Int.natCast_nonneg n) (by omega), Int.toNat_natCast]
  push_cast
  rfl
theorem bin_shl_u64 {yk : IntKind} {a : Nat} (n : Nat) (hn : n ≤ 64) (ha : a * 2 ^ n < 18446744073709551616) : (sBin .shl T x y (.int .u64 (a : Int)) (.int yk (n : Int))).run P w = .ok (.int .u64 ((a * 2 ^ n : Nat) : Int)) w := by
  unfold sBin
  have h1 : IntKind.u64.wrap ((a : Int) * 2 ^ n) = ((a * 2 ^ n : Nat) : Int) := by
    rw [show ((a : Int) * 2 ^ n) = ((a * 2 ^ n : Nat) : Int) by push_cast; rfl, IntKind.wrap_u64]
    omega
  simp only [Sem.run_bind, eqGuard_shl, Sem.run_pure, Result.andThen_ok, binOp_shl, shift_shl_u64 _ _ _ (Int.natCast_nonneg n) (by omega), Int.toNat_natCast, h1]
theorem u64_orN (a b : Nat) (ha : a < 18446744073709551616) (hb : b < 18446744073709551616) : bits .or .u64 (a : Int) (b : Int) = ((a ||| b : Nat) : Int) := by
  have h8 : ∀ c : Nat, c < 18446744073709551616 → (BitVec.ofInt 64 (c : Int)).toNat = c := by
    intro c hc
    rw [BitVec.ofInt_natCast, BitVec.toNat_ofNat]; exact Nat.mod_eq_of_lt (by omega)
  have hx : a ||| b < 2 ^ 64 := Nat.or_lt_two_pow ha hb
  show IntKind.u64.wrap ((BitVec.ofInt 64 (a : Int) ||| BitVec.ofInt 64 (b : Int)).toNat : Int) = _
  rw [BitVec.toNat_or, h8 a ha, h8 b hb, IntKind.wrap_u64]
  omega
theorem u8_andB (a b : UInt8) : bits .and .u8 (a.toNat : Int) (b.toNat : Int) = ((a &&& b).toNat : Int) := by
  have h8 : ∀ c : Nat, c < 256 → (BitVec.ofInt 8 (c : Int)).toNat = c := by
    intro c hc
    rw [BitVec.ofInt_natCast, BitVec.toNat_ofNat]; exact Nat.mod_eq_of_lt (by omega)
  show IntKind.u8.wrap ((BitVec.ofInt 8 (a.toNat : Int) &&& BitVec.ofInt 8 (b.toNat : Int)).toNat : Int) = _
  rw [BitVec.toNat_and, h8 _ a.toNat_lt, h8 _ b.toNat_lt, ← UInt8.toNat_and]
  exact IntWalk.u8_in _ (by have := (a &&& b).toNat_lt; omega)
theorem u8_orB (a b : UInt8) : bits .or .u8 (a.toNat : Int) (b.toNat : Int) = ((a ||| b).toNat : Int) := by
  have h8 : ∀ c : Nat, c < 256 → (BitVec.ofInt 8 (c : Int)).toNat = c := by
    intro c hc
    rw [BitVec.ofInt_natCast, BitVec.toNat_ofNat]; exact Nat.mod_eq_of_lt (by omega)
  show IntKind.u8.wrap ((BitVec.ofInt 8 (a.toNat : Int) ||| BitVec.ofInt 8 (b.toNat : Int)).toNat : Int) = _
  rw [BitVec.toNat_or, h8 _ a.toNat_lt, h8 _ b.toNat_lt, ← UInt8.toNat_or]
  exact IntWalk.u8_in _ (by have := (a ||| b).toNat_lt; omega)
theorem bin_or_u64 {a b : Nat} (ha : a < 18446744073709551616) (hb : b < 18446744073709551616) : (sBin .or T x y (.int .u64 (a : Int)) (.int .u64 (b : Int))).run P w = .ok (.int .u64 ((a ||| b : Nat) : Int)) w := by
  rw [← u64_orN a b ha hb]; rfl
theorem bin_and_u8 (a b : UInt8) : (sBin .and T x y (.int .u8 (a.toNat : Int)) (.int .u8 (b.toNat : Int))).run P w = .ok (.int .u8 ((a &&& b).toNat : Int)) w := by
  rw [← u8_andB a b]; rfl
theorem bin_or_u8 (a b : UInt8) : (sBin .or T x y (.int .u8 (a.toNat : Int)) (.int .u8 (b.toNat : Int))).run P w = .ok (.int .u8 ((a ||| b).toNat : Int)) w := by
  rw [← u8_orB a b]; rfl
/-- Numbers as other numbers. -/
theorem cvt_u8u64 {S T : TypeId} (hS : P.underlying S = some (.int .u8)) (hT : P.underlying T = some (.int .u64)) {c : UInt8} : (convert S T (.int .u8 (c.toNat : Int))).run P w = .ok (.int .u64 (c.toNat : Int)) w := by
  have h : IntKind.u64.wrap (c.toNat : Int) = (c.toNat : Int) := by rw [IntKind.wrap_u64]; have := c.toNat_lt; omega
  simp only [convert, Sem.run_bind, run_underlying hS, run_underlying hT, Result.andThen_ok, Conv.intToInt, h, Sem.run_pure]
theorem cvt_u64u8 {S T : TypeId} (hS : P.underlying S = some (.int .u64)) (hT : P.underlying T = some (.int .u8)) {c : Nat} : (convert S T (.int .u64 (c : Int))).run P w = .ok (.int .u8 ((UInt8.ofNat c).toNat : Int)) w := by
  have h : IntKind.u8.wrap (c : Int) = ((UInt8.ofNat c).toNat : Int) := by rw [IntKind.wrap_u8, UInt8.toNat_ofNat']; omega
  simp only [convert, Sem.run_bind, run_underlying hS, run_underlying hT, Result.andThen_ok, Conv.intToInt, h, Sem.run_pure]
theorem cvt_i64u {S T : TypeId} (hS : P.underlying S = some (.int .i64)) (hT : P.underlying T = some (.int .u64)) {c : Nat} (hc : c < 18446744073709551616) : (convert S T (.int .i64 (c : Int))).run P w = .ok (.int .u64 (c : Int)) w := by
  have h : IntKind.u64.wrap (c : Int) = (c : Int) := by rw [IntKind.wrap_u64]; omega
  simp only [convert, Sem.run_bind, run_underlying hS, run_underlying hT, Result.andThen_ok, Conv.intToInt, h, Sem.run_pure]
end
end Go.Proofs.Ytkeheickaogpiaa
namespace Go.Proofs.Ytkeheickaogpiaa
open Go Go.RowKit Go.Shelf
/-- A row with room behind it. -/
def rowZ (cs z : List Value) (r : Nat) : Array Value := (cs ++ (List.replicate r z).flatten).toArray
theorem zeros_flat (z : List Value) (r : Nat) : ((List.replicate r z).flatten).length = r * z.length := by
  induction r with
  | zero => simp
  | succ r ih => rw [List.replicate_succ, List.flatten_cons, List.length_append, ih, Nat.succ_mul]; omega
theorem rowZ_size (cs z : List Value) (r : Nat) : (rowZ cs z r).size = cs.length + r * z.length := by unfold rowZ; rw [List.size_toArray, List.length_append, zeros_flat]
theorem zeroCells_flat (z : Array Value) (n : Nat) (hz : 0 < z.size) : (Builtin.zeroCells z n).toList = (List.replicate n z.toList).flatten := by
  have h : ∀ n, ∀ i, i < n * z.size → ((List.replicate n z.toList).flatten)[i]? = z[i % z.size]? := by
    intro n
    induction n with
    | zero => intro i hi; omega
    | succ n ih =>
      intro i hi
      rw [List.replicate_succ, List.flatten_cons]
      by_cases h1 : i < z.size
      · rw [List.getElem?_append_left (by simpa using h1), Nat.mod_eq_of_lt h1, Array.getElem?_toList]
      · rw [List.getElem?_append_right (by simpa using h1), Array.length_toList, ih (i - z.size) (by rw [Nat.succ_mul] at hi; omega)]
        congr 1
        exact (Nat.mod_eq_sub_mod (by omega)).symm
  apply List.ext_getElem?
  intro i
  rcases Nat.lt_or_ge i (n * z.size) with h1 | h1
  · rw [h n i h1]
    have h2 : i % z.size < z.size := Nat.mod_lt _ hz
    unfold Builtin.zeroCells
    simp [h1, h2]
  · rw [List.getElem?_eq_none (by rw [Array.length_toList, size_zeroCells]; exact h1), List.getElem?_eq_none (by rw [zeros_flat]; simpa using h1)]

theorem run_vSw {P : Program} {s : Sem Value} {v : Value} {w w' : World} (h : s.run P w = .ok v w') : (vS s).run P w = .ok (.value v) w' := by
  unfold vS
  simp only [Sem.run_bind, h, Result.andThen_ok, Sem.run_pure]
def sApp (T TY : TypeId) (v u : Value) : Sem Next := vS (Builtin.append_ #[T, T] TY #[v, u])
def sCopy (T U TY : TypeId) (v u : Value) : Sem Next := vS (Builtin.copy_ #[T, U] TY #[v, u])
/-- What an operation does, in the form of a hint. -/
def ActsS (P : Program) (s : Sem Next) (v : Env → Value) (rd : Wr) (O : List Nat) (wt : Env → Wr) : Prop :=
  ∀ w', Has (rd.map (·.2)) w' → ∃ E w'', (s.run P w' = .ok (.value (v E)) w'' ∨ (s.run P w' = .ok .skip w'' ∧ v E = undef)) ∧ Step O ((wt E).map (·.2)) w' w''
theorem row_cells {w : World} {g off : Nat} {t : TypeId} {cs : Array Value} {news : List Value} (hb : w.heap[g]? = some (.cells cs t (0, 0))) (hn : (cs.toList.drop off).take news.length = news) : ∀ j u, news[j]? = some u → w.cell? ((⟨g, off, none⟩ : Addr).add j) = some u := by
  intro j u hu
  have hadd : (⟨g, off, none⟩ : Addr).add j = ⟨g, off + j, none⟩ := by unfold Addr.add; split <;> simp_all
  rw [hadd, cell_of_row w g (off + j) cs t (0, 0) hb]
  have hj : j < news.length := (List.getElem?_eq_some_iff.1 hu).1
  have h2 := congrArg (fun z => z[j]?) hn
  simp only [List.getElem?_take_of_lt hj, List.getElem?_drop] at h2
  rw [← Array.getElem?_toList, h2]
  exact hu
section
variable {P : Program} {T e : TypeId} {i : TypeInfo} {zv : Value}
/-- What a type of slices is, seen at once. -/
structure SlT (P : Program) (T e : TypeId) (z : List Value) : Prop where
  ht : P.underlying T = some (.slice e)
  hi : ∃ i zv, P.info? e = some i ∧ i.zero = some zv ∧ i.size = z.length ∧ zv.cells.toList = z ∧ i.bytes ≤ 1048576
  h0 : 0 < z.length
theorem SlT.mk' {z : List Value} (ht : P.underlying T = some (.slice e)) (hi : (P.info? e).map (fun i => (i.zero.map (fun v => v.cells.toList), i.size, Nat.ble i.bytes 1048576)) = some (some z, z.length, true)) (h0 : Nat.blt 0 z.length = true) : SlT P T e z := by
  refine ⟨ht, ?_, Nat.blt_eq ▸ h0⟩
  cases hq : P.info? e with
  | none => rw [hq] at hi; cases hi
  | some i =>
    rw [hq] at hi
    simp only [Option.map_some, Option.some.injEq, Prod.mk.injEq] at hi
    cases hz : i.zero with
    | none => rw [hz] at hi; simp at hi
    | some zv =>
      rw [hz] at hi
      exact ⟨i, zv, rfl, hz, hi.2.1, by simpa using hi.1, Nat.le_of_ble_eq_true hi.2.2⟩
/-- Appending to a row with room, from a part of another one. -/
theorem acts_app {z cs news : List Value} {g r n m c p q off : Nat} {a : Nat} {t' TY : TypeId} {cs2 : Array Value} (hT : SlT P T e z) (hn : cs.length = n * z.length) (hm : news.length = m * z.length) (hN : (cs2.toList.drop off).take news.length = news) (h1 : ∀ u ∈ news, u.oneCell' = true) (hb : n + m ≤ 1000000) :
    ActsS P (sApp T TY (.slice (some ⟨g, 0, none⟩) n (n + r)) (.slice (some ⟨a, off, none⟩) m c)) (fun E => .slice (some ⟨E.blk 0, 0, none⟩) (n + m) (n + m + E.num 0)) [(p, (g, .cells (rowZ cs z r) e (0, 0))), (q, (a, .cells cs2 t' (0, 0)))] [g] (fun E => [(p, (E.blk 0, .cells (rowZ (cs ++ news) z (E.num 0)) e (0, 0)))]) := by
  intro w H
  obtain ⟨ht, ⟨i, zv, hi, hz, hs, hzc, hby⟩, h0⟩ := hT
  have hg : w.heap[g]? = some (.cells (rowZ cs z r) e (0, 0)) := H.obj (g, _) (by simp)
  have ha : w.heap[a]? = some (.cells cs2 t' (0, 0)) := H.obj (a, _) (by simp)
  have hnews := row_cells ha hN
  by_cases hr : m ≤ r
  · have e1 : ((rowZ cs z r).toList.take (n * i.size) ++ news ++ (rowZ cs z r).toList.drop (n * i.size + news.length)).toArray = rowZ (cs ++ news) z (r - m) := by
      have hrep : (List.replicate r z).flatten = (List.replicate m z).flatten ++ (List.replicate (r - m) z).flatten := by
        rw [← List.flatten_append, List.replicate_append_replicate, show m + (r - m) = r by omega]
      unfold rowZ
      rw [hs, ← hn, hrep]
      simp only [List.append_assoc]
      congr 1
      rw [List.take_append_of_le_length (Nat.le_refl _), List.take_length]
      congr 2
      rw [hm, ← zeros_flat z m, ← List.length_append, ← List.append_assoc cs, List.drop_append_of_le_length (Nat.le_refl _), List.drop_length, List.nil_append]
    have hrun := run_append_room (P := P) w T TY e i ht hi g n (n + r) (rowZ cs z r) hg ⟨a, off, none⟩ m c news (by rw [hs]; exact hm) hnews h1 (by omega) (by rw [hs, ← hn, hm, rowZ_size]; have := Nat.mul_le_mul_right z.length hr; omega)
    rw [e1] at hrun
    exact ⟨⟨fun _ => g, fun _ => [], fun _ => r - m⟩, _, .inl (run_vSw (by rw [hrun]; simp only; rw [show n + m + (r - m) = n + r by omega])), Step.setRow _ hg⟩
  · have hge := grownCap_ge w (n + m) (n + r) e
    obtain ⟨G, hG⟩ : ∃ G, grownCap w (n + m) (n + r) e = G := ⟨_, rfl⟩
    rw [hG] at hge
    have hbb : (n + m) * i.bytes ≤ 140737488355328 := Nat.le_trans (Nat.mul_le_mul hb hby) (by decide)
    have hold := row_cells (news := cs) hg (off := 0) (by unfold rowZ; rw [List.drop_zero, List.take_append_of_le_length (Nat.le_refl _), List.take_length])
    have h := run_append_grow (P := P) w T TY e i zv ht hi hz ⟨g, 0, none⟩ n (n + r) cs (by rw [hs]; exact hn) hold ⟨a, off, none⟩ m c news (by rw [hs]; exact hm) hnews (by omega) (by omega) (growslice_fits (by omega) hbb)
    rw [hG] at h
    have e1 : cs.toArray ++ news.toArray ++ Builtin.zeroCells zv.cells (G - (n + m)) = rowZ (cs ++ news) z (G - (n + m)) := by
      have hzz : 0 < zv.cells.size := by rw [← Array.length_toList, hzc]; exact h0
      apply Array.toList_inj.1
      unfold rowZ
      simp only [Array.toList_append, zeroCells_flat _ _ hzz, hzc]
    rw [e1] at h
    have hal := (Below.refl w.heap.size w.drew).alloc (Nat.le_refl _) (.cells (rowZ (cs ++ news) z (G - (n + m))) e)
    exact ⟨⟨fun _ => w.heap.size, fun _ => [], fun _ => G - (n + m)⟩, _, .inl (run_vSw (by rw [h]; simp only; rw [show n + m + (G - (n + m)) = G by omega])),
      hal.os, hal.tape, hal.output, hal.size, fun x hx => by obtain rfl := List.mem_singleton.1 hx; exact World.alloc_heap_new w.drew _, fun x hx => by obtain rfl := List.mem_singleton.1 hx; exact .inr (Nat.le_refl _), List.pairwise_singleton _ _, fun b hb _ => hal.block b hb⟩
/-- Appending to none. -/
theorem acts_app0 {z news : List Value} {m c p q off : Nat} {a : Nat} {t' TY : TypeId} {cs2 : Array Value} (hT : SlT P T e z) (hm : news.length = m * z.length) (hN : (cs2.toList.drop off).take news.length = news) (h0m : 0 < m) (hb : m ≤ 1000000) :
    ActsS P (sApp T TY (.slice none 0 0) (.slice (some ⟨a, off, none⟩) m c)) (fun E => .slice (some ⟨E.blk 0, 0, none⟩) m (m + E.num 0)) [(q, (a, .cells cs2 t' (0, 0)))] [] (fun E => [(p, (E.blk 0, .cells (rowZ news z (E.num 0)) e (0, 0)))]) := by
  intro w H
  obtain ⟨ht, ⟨i, zv, hi, hz, hs, hzc, hby⟩, h0⟩ := hT
  have ha : w.heap[a]? = some (.cells cs2 t' (0, 0)) := H.obj (a, _) (by simp)
  have hnews := row_cells ha hN
  have hge := grownCap_ge w m 0 e
  obtain ⟨G, hG⟩ : ∃ G, grownCap w m 0 e = G := ⟨_, rfl⟩
  rw [hG] at hge
  have hbb : m * i.bytes ≤ 281474976710656 := Nat.le_trans (Nat.mul_le_mul hb hby) (by decide)
  have h := run_append_nil (P := P) w T TY e i zv ht hi hz ⟨a, off, none⟩ m c news (by rw [hs]; exact hm) hnews h0m (by omega) hbb
  rw [hG] at h
  have e1 : news.toArray ++ Builtin.zeroCells zv.cells (G - m) = rowZ news z (G - m) := by
    have hzz : 0 < zv.cells.size := by rw [← Array.length_toList, hzc]; exact h0
    apply Array.toList_inj.1
    unfold rowZ
    simp only [Array.toList_append, zeroCells_flat _ _ hzz, hzc]
  rw [e1] at h
  have hal := (Below.refl w.heap.size w.drew).alloc (Nat.le_refl _) (.cells (rowZ news z (G - m)) e)
  exact ⟨⟨fun _ => w.heap.size, fun _ => [], fun _ => G - m⟩, _, .inl (run_vSw (by rw [h]; simp only; rw [show m + (G - m) = G by omega])),
    hal.os, hal.tape, hal.output, hal.size, fun x hx => by obtain rfl := List.mem_singleton.1 hx; exact World.alloc_heap_new w.drew _, fun x hx => by obtain rfl := List.mem_singleton.1 hx; exact .inr (Nat.le_refl _), List.pairwise_singleton _ _, fun b hb _ => hal.block b hb⟩
/-- A new object. -/
theorem acts_new {s : Sem Value} {v : Nat → Value} {o : Obj} {p : Nat} (h : ∀ w, s.run P w = .ok (v w.heap.size) (w.alloc o)) : ActsS P (vS s) (fun E => v (E.blk 0)) [] [] (fun E => [(p, (E.blk 0, o))]) :=
  fun w _ => ⟨⟨fun _ => w.heap.size, fun _ => [], fun _ => 0⟩, _, .inl (run_vSw (h w)), Step.alloc w o⟩
/-- Copying a part of one row into another one. -/
theorem acts_copy {U TY t t' : TypeId} {z news : List Value} {g off dl dc a so sl sc n p q : Nat} {cs cs' cs2 : Array Value} (hT : SlT P T e z) (hn : min sl dl = n) (hm : news.length = n * z.length) (hN : (cs2.toList.drop so).take news.length = news) (h1 : ∀ u ∈ news, u.oneCell' = true) (hf : off + news.length ≤ cs.size)
    (hc : cs.toList.take off ++ news ++ cs.toList.drop (off + news.length) = cs'.toList) :
    ActsS P (sCopy T U TY (.slice (some ⟨g, off, none⟩) dl dc) (.slice (some ⟨a, so, none⟩) sl sc)) (fun _ => .int .i64 (n : Int)) [(p, (g, .cells cs t (0, 0))), (q, (a, .cells cs2 t' (0, 0)))] [g] (fun _ => [(p, (g, .cells cs' t (0, 0)))]) := by
  intro w H
  obtain ⟨ht, ⟨i, zv, hi, hz, hs, hzc, hby⟩, h0⟩ := hT
  have hg : w.heap[g]? = some (.cells cs t (0, 0)) := H.obj (g, _) (by simp)
  have ha : w.heap[a]? = some (.cells cs2 t' (0, 0)) := H.obj (a, _) (by simp)
  have hnews := row_cells ha hN
  have hff := run_firstCells_some (P := P) w i.size n ⟨a, so, none⟩ sl sc news (by rw [hs]; exact hm) hnews
  have hst := run_storeCells_at P g off t news 0 cs w hg (by simpa using hf) h1
  simp only [Nat.add_zero] at hst
  have e1 : (cs.toList.take off ++ news ++ cs.toList.drop (off + news.length)).toArray = cs' := by rw [hc]
  rw [e1] at hst
  refine ⟨Env.zero, w.setRow g cs', .inl (run_vSw ?_), Step.setRow cs' hg⟩
  have hmin : Nat.min sl dl = n := hn
  simp [Builtin.copy_, run_underlying ht, sizeOf, typeInfo, hi, Builtin.lenOf, hmin, hff, hst, goInt]
end
end Go.Proofs.Ytkeheickaogpiaa
namespace Go.Proofs.Ytkeheickaogpiaa
open Go Go.RowKit Go.Shelf
section
variable {P : Program} {T e : TypeId} {x y : Operand} {w : World}
theorem bin_mul_nat {a b : Nat} (h : a * b < 9223372036854775808) : (sBin .mul T x y (.int .i64 (a : Int)) (.int .i64 (b : Int))).run P w = .ok (.int .i64 ((a * b : Nat) : Int)) w := by
  have h2 : ((a * b : Nat) : Int) < 9223372036854775808 := by omega
  have h3 := Int.natCast_nonneg (a * b)
  have e : ((a * b : Nat) : Int) = (a : Int) * (b : Int) := by push_cast; rfl
  rw [e] at h2 h3 ⊢
  exact bin_mul_in (P := P) (T := T) (x := x) (y := y) (w := w) (a := (a : Int)) (b := (b : Int)) (by omega) (by omega)
theorem bin_add_nat {a b : Nat} (h : a + b < 9223372036854775808) : (sBin .add T x y (.int .i64 (a : Int)) (.int .i64 (b : Int))).run P w = .ok (.int .i64 ((a + b : Nat) : Int)) w := by
  have := bin_add_in (P := P) (T := T) (x := x) (y := y) (w := w) (a := (a : Int)) (b := (b : Int)) (by omega) (by omega)
  rw [show ((a + b : Nat) : Int) = (a : Int) + (b : Int) by push_cast; rfl]
  exact this
theorem add_lit (g off m : Nat) : (⟨g, off, none⟩ : Addr).add m = ⟨g, off + m, none⟩ := by unfold Addr.add; split <;> simp_all
/-- What is seen of the types at once. -/
def sizB (P : Program) (e : TypeId) : Option Nat := (P.info? e).map (·.size)
theorem run_sizeOf {s : Nat} (h : sizB P e = some s) : (sizeOf e).run P w = .ok s w := by
  unfold sizB at h
  cases hq : P.info? e with
  | none => rw [hq] at h; cases h
  | some i =>
    rw [hq] at h
    simp only [Option.map_some, Option.some.injEq] at h
    simp [sizeOf, typeInfo, hq, h]
theorem idx_sl {g off n c k s : Nat} (hT : (P.underlying T, sizB P (P.elem T)) = (some (.slice (P.elem T)), some s)) (hk : k < n) : (Instr.indexAt T (.slice (some ⟨g, off, none⟩) n c) (.int .i64 (k : Int))).run P w = .ok (.pointer (some ⟨g, off + k * s, none⟩)) w := by
  rw [run_indexAt_slice w T _ n c .i64 (k : Int) (congrArg (·.1) hT), if_pos (by omega), run_sizeOf (congrArg (·.2) hT), Result.andThen_ok, Int.toNat_natCast, add_lit]
theorem idx_ar {g off k s N : Nat} (hT : (P.underlying T, P.arrayLen T, sizB P (P.elem T)) = (some (.array N (P.elem T)), N, some s)) (hk : k < N) : (Instr.indexAt T (.pointer (some ⟨g, off, none⟩)) (.int .i64 (k : Int))).run P w = .ok (.pointer (some ⟨g, off + k * s, none⟩)) w := by
  have h2 : P.arrayLen T = N := congrArg (·.2.1) hT
  rw [run_indexAt_array w T _ .i64 (k : Int) (by rw [h2]; exact congrArg (·.1) hT), h2, if_pos (by omega), run_sizeOf (congrArg (·.2.2) hT), Result.andThen_ok, Int.toNat_natCast, add_lit]
/-- A part of an array, from l to h. -/
theorem sl_ar {g l h s N : Nat} (hT : (P.underlying T, P.arrayLen T, sizB P (P.elem T)) = (some (.array N (P.elem T)), N, some s)) (h1 : l ≤ h) (h2 : h ≤ N) (h3 : l < N) : (Instr.sliceAt T (.pointer (some ⟨g, 0, none⟩)) (some (.int .i64 (l : Int))) (some (.int .i64 (h : Int))) none).run P w = .ok (.slice (some ⟨g, l * s, none⟩) (h - l) (N - l)) w := by
  have e1 : P.arrayLen T = N := congrArg (·.2.1) hT
  rw [run_sliceAt_array_lh w T ⟨g, 0, none⟩ (by rw [e1]; exact congrArg (·.1) hT) .i64 .i64 (l : Int) (h : Int) (by omega) (by omega) (by rw [e1]; omega), run_sizeOf (congrArg (·.2.2) hT), Result.andThen_ok]
  unfold slicedAt
  rw [e1, Int.toNat_natCast, Int.toNat_natCast, add_lit, Nat.zero_add, if_neg (by omega)]
theorem sl_arl {g l s N : Nat} (hT : (P.underlying T, P.arrayLen T, sizB P (P.elem T)) = (some (.array N (P.elem T)), N, some s)) (h3 : l < N) : (Instr.sliceAt T (.pointer (some ⟨g, 0, none⟩)) (some (.int .i64 (l : Int))) none none).run P w = .ok (.slice (some ⟨g, l * s, none⟩) (N - l) (N - l)) w := by
  have e1 : P.arrayLen T = N := congrArg (·.2.1) hT
  rw [run_sliceAt_array_l w T ⟨g, 0, none⟩ (by rw [e1]; exact congrArg (·.1) hT) .i64 (l : Int) (by omega) (by rw [e1]; omega), run_sizeOf (congrArg (·.2.2) hT), Result.andThen_ok]
  unfold slicedAt
  rw [e1, Int.toNat_natCast, add_lit, Nat.zero_add, if_neg (by omega)]
theorem sl_ara {g s N : Nat} (hT : (P.underlying T, P.arrayLen T, sizB P (P.elem T)) = (some (.array N (P.elem T)), N, some s)) (h3 : 0 < N) : (Instr.sliceAt T (.pointer (some ⟨g, 0, none⟩)) none none none).run P w = .ok (.slice (some ⟨g, 0, none⟩) N N) w := by
  have e1 : P.arrayLen T = N := congrArg (·.2.1) hT
  rw [run_sliceAt_array_all w T ⟨g, 0, none⟩ (by rw [e1]; exact congrArg (·.1) hT), run_sizeOf (congrArg (·.2.2) hT), Result.andThen_ok]
  unfold slicedAt
  rw [e1, add_lit, Nat.zero_mul, if_neg (by omega)]
  rfl
end
/-- Bytes and ints as cells. -/
def bV (xs : List UInt8) : List Value := xs.map fun b => .int .u8 (b.toNat : Int)
theorem rowZ_part {cs z : List Value} {r : Nat} : ((rowZ cs z r).toList.drop 0).take cs.length = cs := by unfold rowZ; rw [List.drop_zero, List.take_append_of_le_length (Nat.le_refl _), List.take_length]
theorem rawV_bV (xs : List UInt8) : rawV xs = (bV xs).toArray := rfl
section
variable {P : Program} {f : FuncId} {args : Array Value} {w' : World} {v : Value}
theorem Step.ofOwn {w w' : World} {N : Objs} (h : Own w.heap.size w N w') : Step [] N w w' :=
  ⟨h.os, h.tape, h.output, h.size, h.obj, fun x hx => .inr (h.lo x hx), h.nd, fun b hb _ => h.far b hb fun x hx e => by have := h.lo x hx; omega⟩
end
end Go.Proofs.Ytkeheickaogpiaa
