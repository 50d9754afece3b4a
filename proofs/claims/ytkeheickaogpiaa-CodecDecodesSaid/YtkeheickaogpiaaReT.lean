/- The region's law: its operations' equations, seen at once, and the walk goes on behind it. No program in sight. -/
import Derived.Test.YtkeheickaogpiaaReS
namespace Go.Proofs.Ytkeheickaogpiaa
open Go Go.RowKit Go.Shelf

section
variable {F : Fence} {n : Nat} {P : Program} {L : List Oper} {Q : Exit → Act → World → Prop} {a : Act} {t : Told} {η : Envs} {k : Nat} {o : Oper}
theorem sB_false (h : ∀ e ∈ [sB false], e.2.1 = e.2.2) : False := by
  have := h (sB false) (List.mem_singleton.2 rfl)
  cases this
theorem has_at1 {p g : Nat} {ob : Obj} {c : Nat → Option (Nat × Obj)} {w : World} (h : Has ((at1 p c).map (·.2)) w) (hc : c p = some (g, ob)) : w.heap[g]? = some ob := by
  unfold at1 at h
  rw [hc] at h
  exact h.obj (g, ob) (by simp)
theorem has_1 {p g : Nat} {ob : Obj} {w : World} (h : Has (([(p, (g, ob))] : Wr).map (·.2)) w) : w.heap[g]? = some ob := h.obj (g, ob) (by simp)
theorem run_vS {s : Sem Value} {v : Value} {w : World} (h : s.run P w = .ok v w) : (vS s).run P w = .ok (.value v) w := by
  unfold vS
  simp only [Sem.run_bind, h, Result.andThen_ok, Sem.run_pure]
theorem andE_spec {b E : Bool} {x v : Value} (h : andE b E x = some v) : b = true ∧ ∃ X, x = .bool X ∧ v = .bool (E && X) := by
  unfold andE at h
  split at h
  · cases h; exact ⟨rfl, _, rfl, rfl⟩
  · cases h
theorem orE_spec {b E : Bool} {x v : Value} (h : orE b E x = some v) : b = true ∧ ∃ X, x = .bool X ∧ v = .bool (E || X) := by
  unfold orE at h
  split at h
  · cases h; exact ⟨rfl, _, rfl, rfl⟩
  · cases h
theorem run_ls {w : World} {g off : Nat} {ty T : TypeId} {cs : Array Value} {l : List Value} (hg : w.heap[g]? = some (.cells cs ty (0, 0))) (hl : (cs.toList.drop off).take l.length = l) (h : aggB P T = true) (hi : (P.info? T).map (·.size) = some l.length) : (loadVar T ⟨g, off, none⟩).run P w = .ok (.agg l.toArray) w := by
  unfold aggB at h
  split at h
  · rename_i e; exact run_loadVar_sub w g off ty T cs l hg hl e rfl hi
  · rename_i e; exact run_loadVar_sub w g off ty T cs l hg hl e rfl hi
  · cases h
theorem run_lr {w : World} {g : Nat} {ty T : TypeId} {cs : Array Value} (hg : w.heap[g]? = some (.cells cs ty (0, 0))) (h : aggB P T = true) (hi : (P.info? T).map (·.size) = some cs.size) : (loadVar T ⟨g, 0, none⟩).run P w = .ok (.agg cs) w := by
  unfold aggB at h
  split at h
  · rename_i e; exact run_loadVar_row w g ty T cs (0, 0) _ hg e rfl hi
  · rename_i e; exact run_loadVar_row w g ty T cs (0, 0) _ hg e rfl hi
  · cases h
theorem kind_ok (hF : Fence.free F) (h : Hint F n P) (hv : t.val η k = h.val) (hrd : t.rd η k = h.rd (fun p => t.at η p k)) (hwt : t.wt η k = h.wt) (hob : t.ob η k = h.ob)
    (he : ∀ e ∈ kindE L a t η k o h, e.2.1 = e.2.2) : Acts F n P L Q a t η k o := by
  refine ⟨fun xs w' hx hf hH hC K hK => ?_⟩
  rw [hrd] at hH
  rw [hv, hwt, hob] at hK
  have ev : ∀ {x}, okR L a t k (t.cds k) x = true → (putsH xs L 0 a).eval x = rhoR L a t η k x := fun ho => eval_rho hx hf hC ho
  have nd : opOk L a t k o = true → noDefer o = true := fun h => by unfold opOk at h; simp only [Bool.and_eq_true] at h; exact h.1
  have cg : opOk L a t k o = true → execOp (putsH xs L 0 a).eval o = execOp (rhoR L a t η k) o := fun h => by
    unfold opOk at h
    simp only [Bool.and_eq_true] at h
    cases hl : opds o.op with
    | none => rw [hl] at h; cases h.2
    | some l =>
      rw [hl] at h
      exact execOp_congr hl fun x hxl => ev (List.all_eq_true.1 h.2 x hxl)
  cases h with
  | pv v =>
    simp only [kindE, List.mem_cons, List.not_mem_nil, or_false, forall_eq_or_imp, forall_eq, sE, sB] at he
    exact wp_val hF (nd he.1) (by rw [cg he.1]; exact congrFun he.2 w') (hK Env.zero w' (Step.refl w'))
  | tv v s h =>
    simp only [kindE, List.mem_cons, List.not_mem_nil, or_false, forall_eq_or_imp, forall_eq, sE, sB] at he
    exact wp_val hF (nd he.1) (by rw [cg he.1]; exact (congrFun he.2 w').trans (run_vS (h w'))) (hK Env.zero w' (Step.refl w'))
  | tc v j E b s h =>
    simp only [kindE, List.mem_cons, List.not_mem_nil, or_false, forall_eq_or_imp, forall_eq, sE, sB] at he
    obtain ⟨h1, h2, h3, h4⟩ := he
    have hE : E = b := by
      have := hC (j, b) (by simpa using h2)
      rw [h3] at this
      exact Value.bool.inj this
    exact wp_val hF (nd h1) (by rw [cg h1]; exact (congrFun h4 w').trans (run_vS (h hE w'))) (hK Env.zero w' (Step.refl w'))
  | pk v =>
    simp only [kindE] at he
    split at he
    · rename_i c x y hop
      simp only [List.mem_cons, List.not_mem_nil, or_false, forall_eq_or_imp, forall_eq, sE, sB] at he
      obtain ⟨h1, h2⟩ := he
      have hnd : noDefer o = true := by unfold noDefer; rw [hop]
      refine wp_val hF hnd ?_ (hK Env.zero w' (Step.refl w'))
      have hc := ev h1
      -- what is known where the test is true, or false
      have evC : ∀ {z : Operand} {E b : Bool}, rhoR L a t η k c = .bool E → E = b →
          okR L a t k (match (match c with | .tmp i => (match whoPuts i L 0 with | some j => if (t.D k).contains j then some j else none | none => none) | _ => none) with | some j => t.cds k ++ [(j, b)] | none => t.cds k) z = true → (putsH xs L 0 a).eval z = rhoR L a t η k z := by
        intro z E b hcE hEb hz
        refine eval_rho hx hf ?_ hz
        intro q hq
        cases c with
        | tmp i =>
          simp only at hq hcE
          simp only [rhoR] at hcE
          cases hw : whoPuts i L 0 with
          | none => rw [hw] at hq; exact hC q hq
          | some j =>
            rw [hw] at hq hcE
            simp only at hq hcE
            by_cases hd : (t.D k).contains j = true
            · rw [if_pos hd] at hq hcE
              simp only at hq
              rcases List.mem_append.1 hq with h3 | h3
              · exact hC q h3
              · obtain rfl := List.mem_singleton.1 h3
                rw [← hEb]
                exact hcE
            · rw [if_neg hd] at hq
              exact hC q hq
        | _ => exact hC q hq
      unfold pickE at h2
      simp only at h2
      split at h2
      · rename_i E hcE
        have hcv := hc.trans hcE
        split at h2
        · obtain ⟨hok, X, hX, rfl⟩ := andE_spec h2
          cases E with
          | false => exact run_pickO hop hcv rfl
          | true => exact run_pickO hop hcv ((evC hcE rfl hok).trans hX)
        · split at h2
          · obtain ⟨hok, Y, hY, rfl⟩ := orE_spec h2
            cases E with
            | false => exact run_pickO hop hcv ((evC hcE rfl hok).trans hY)
            | true => exact run_pickO hop hcv rfl
          · cases h2
      · cases h2
    · exact (sB_false he).elim
  | dead v =>
    simp only [kindE] at he
    split at he
    · rename_i j b hl
      simp only [List.mem_cons, List.not_mem_nil, or_false, forall_eq, sE] at he
      have hm := List.mem_of_getLast? hl
      have := hC (j, b) hm
      rw [he] at this
      cases b <;> cases this
    · exact (sB_false he).elim
  | ld v p off =>
    simp only [kindE] at he
    split at he
    · rename_i T x g cs ty hop hat
      simp only [List.mem_cons, List.not_mem_nil, or_false, forall_eq_or_imp, forall_eq, sE, sB, ptrV] at he
      obtain ⟨h1, h2, h3, h4⟩ := he
      have hb : Blk w' g ty cs := has_at1 (show Has ((at1 p fun p => t.at η p k).map (·.2)) w' from hH) hat
      refine wp_val hF (by unfold noDefer; rw [hop]) ?_ (hK Env.zero w' (Step.refl w'))
      unfold execOp
      simp only [hop, (ev h1).trans h2, Instr.loadAt, Instr.sureAddr, Sem.run_bind, Sem.run_pure, Result.andThen_ok, run_loadVar_cell (congrFun h4 w') ((hb.cell off).trans h3)]
      rfl
    · exact (sB_false he).elim
  | lt v p off g cs ty h =>
    simp only [kindE] at he
    split at he
    · rename_i T x hop
      simp only [List.mem_cons, List.not_mem_nil, or_false, forall_eq_or_imp, forall_eq, sE, sB, ptrV] at he
      obtain ⟨h1, h2, h4⟩ := he
      have hb : Blk w' g ty cs := has_1 (show Has (([(p, (g, .cells cs ty (0, 0)))] : Wr).map (·.2)) w' from hH)
      refine wp_val hF (by unfold noDefer; rw [hop]) ?_ (hK Env.zero w' (Step.refl w'))
      unfold execOp
      simp only [hop, (ev h1).trans h2, Instr.loadAt, Instr.sureAddr, Sem.run_bind, Sem.run_pure, Result.andThen_ok, run_loadVar_cell (congrFun h4 w') ((hb.cell off).trans h)]
      rfl
    · exact (sB_false he).elim
  | ls l p off =>
    simp only [kindE] at he
    split at he
    · rename_i T x g cs ty hop hat
      simp only [List.mem_cons, List.not_mem_nil, or_false, forall_eq_or_imp, forall_eq, sE, sB, ptrV] at he
      obtain ⟨h1, h2, h3, h4, h5⟩ := he
      refine wp_val hF (by unfold noDefer; rw [hop]) ?_ (hK Env.zero w' (Step.refl w'))
      unfold execOp
      simp only [hop, (ev h1).trans h2, Instr.loadAt, Instr.sureAddr, Sem.run_bind, Sem.run_pure, Result.andThen_ok, run_ls (has_at1 (show Has ((at1 p fun p => t.at η p k).map (·.2)) w' from hH) hat) h3 h4 h5]
      rfl
    · exact (sB_false he).elim
  | lr p cs T h =>
    simp only [kindE] at he
    split at he
    · rename_i T' x g cs' ty hop hat
      simp only [List.mem_cons, List.not_mem_nil, or_false, forall_eq_or_imp, forall_eq, sE, sB, ptrV] at he
      obtain ⟨h1, h2, h3, h4, h5⟩ := he
      subst h3
      subst h4
      refine wp_val hF (by unfold noDefer; rw [hop]) ?_ (hK Env.zero w' (Step.refl w'))
      unfold execOp
      simp only [hop, (ev h1).trans h2, Instr.loadAt, Instr.sureAddr, Sem.run_bind, Sem.run_pure, Result.andThen_ok, run_lr (has_at1 (show Has ((at1 p fun p => t.at η p k).map (·.2)) w' from hH) hat) h5 h]
      rfl
    · exact (sB_false he).elim
  | al p T cs =>
    simp only [kindE] at he
    split at he
    · rename_i T' hop
      simp only [List.mem_cons, List.not_mem_nil, or_false, forall_eq_or_imp, forall_eq, sE, ptrV] at he
      obtain ⟨h1, h2⟩ := he
      subst h1
      refine wp_val hF (by unfold noDefer; rw [hop]) ?_ (hK ⟨fun _ => w'.heap.size, fun _ => [], fun _ => 0⟩ _ (Step.alloc w' (.cells cs T')))
      unfold execOp
      have := congrFun h2 w'
      simp only [hop, Sem.run_bind, this, Result.andThen_ok, Sem.run_pure]
      rfl
    · exact (sB_false he).elim
  | bx p T v =>
    simp only [kindE] at he
    split at he
    · rename_i T' x hop
      simp only [List.mem_cons, List.not_mem_nil, or_false, forall_eq_or_imp, forall_eq, sE, sB] at he
      obtain ⟨h1, h2, h3⟩ := he
      subst h1
      refine wp_val hF (by unfold noDefer; rw [hop]) ?_ (hK ⟨fun _ => w'.heap.size, fun _ => [], fun _ => 0⟩ _ (Step.alloc w' (.cells v.cells T')))
      unfold execOp
      simp only [hop, (ev h2).trans h3, Sem.run_bind, show (Instr.box T' v).run P w' = .ok (.pointer (some ⟨w'.heap.size, 0, none⟩)) (w'.alloc (.cells v.cells T')) from rfl, Result.andThen_ok, Sem.run_pure]
      rfl
    · exact (sB_false he).elim
  | st p g off ty v cs' =>
    simp only [kindE] at he
    split at he
    · rename_i T x y g' cs ty' hop hat
      simp only [List.mem_cons, List.not_mem_nil, or_false, forall_eq_or_imp, forall_eq, sE, sB, ptrV] at he
      obtain ⟨h1, h2, h3, h4, h5, h6, h7, h8, h9⟩ := he
      cases h3
      subst h6
      have hb := has_at1 (show Has ((at1 p fun p => t.at η p k).map (·.2)) w' from hH) hat
      refine wp_skip hF (by unfold noDefer; rw [hop]) ?_ (hK Env.zero _ (Step.setc v hb))
      unfold execOp
      simp only [hop, (ev h1).trans h4, (ev h2).trans h5, Instr.storeAt, Instr.sureAddr, Sem.run_bind, Sem.run_pure, Result.andThen_ok, run_store1 hb (Nat.blt_eq ▸ h7) h8 h9]
    · exact (sB_false he).elim
  | sw p g off ty v cs cs' h hi =>
    simp only [kindE] at he
    split at he
    · rename_i T x y hop
      simp only [List.mem_cons, List.not_mem_nil, or_false, forall_eq_or_imp, forall_eq, sE, sB, ptrV] at he
      obtain ⟨h1, h2, h4, h5, h8, h9⟩ := he
      subst h
      have hb := has_1 (show Has (([(p, (g, .cells cs ty (0, 0)))] : Wr).map (·.2)) w' from hH)
      refine wp_skip hF (by unfold noDefer; rw [hop]) ?_ (hK Env.zero _ (Step.setc v hb))
      unfold execOp
      simp only [hop, (ev h1).trans h4, (ev h2).trans h5, Instr.storeAt, Instr.sureAddr, Sem.run_bind, Sem.run_pure, Result.andThen_ok, run_store1 hb hi h8 h9]
    · exact (sB_false he).elim
  | ss p g off ty l cs' =>
    simp only [kindE] at he
    split at he
    · rename_i T x y g' cs ty' hop hat
      simp only [List.mem_cons, List.not_mem_nil, or_false, forall_eq_or_imp, forall_eq, sE, sB, ptrV] at he
      obtain ⟨h1, h2, h3, h4, h5, h6, h7, h8, h9⟩ := he
      cases h3
      have hb := has_at1 (show Has ((at1 p fun p => t.at η p k).map (·.2)) w' from hH) hat
      have h10 : cs' = (cs.toList.take off ++ l ++ cs.toList.drop (off + l.length)).toArray := by rw [h6]
      subst h10
      have hr0 := run_storeCells_at P g off ty l 0 cs w' hb (Nat.le_of_ble_eq_true h7) (fun v hv => (List.all_eq_true.1 h8) v hv)
      have hr : (storeVar T ⟨g, off, none⟩ (.agg l.toArray)).run P w' = .ok () (w'.setRow g (cs.toList.take off ++ l ++ cs.toList.drop (off + l.length)).toArray) := by
        cases hq : P.info? T with
        | none => simp [hq] at h9
        | some inf =>
          have hs2 : inf.size = l.length := by simpa [hq] using h9
          unfold storeVar
          simp only [sizeOf, typeInfo, Value.cells, Sem.run_bind]
          simp [hq, hs2, hr0]
      refine wp_skip hF (by unfold noDefer; rw [hop]) ?_ (hK Env.zero _ (Step.setRow _ hb))
      unfold execOp
      simp only [hop, (ev h1).trans h4, (ev h2).trans h5, Instr.storeAt, Instr.sureAddr, Sem.run_bind, Sem.run_pure, Result.andThen_ok, hr]
    · exact (sB_false he).elim
  | sr p g ty T cs cs' h hs h1' =>
    simp only [kindE] at he
    split at he
    · rename_i T' x y hop
      simp only [List.mem_cons, List.not_mem_nil, or_false, forall_eq_or_imp, forall_eq, sE, sB, ptrV] at he
      obtain ⟨h1, h2, h3, h4, h5⟩ := he
      subst h3
      have hb := has_1 (show Has (([(p, (g, .cells cs ty (0, 0)))] : Wr).map (·.2)) w' from hH)
      have hr := run_storeVar_row (P := P) w' g ty T' cs cs' hb h hs.symm h1'
      refine wp_skip hF (by unfold noDefer; rw [hop]) ?_ (hK Env.zero _ (Step.setRow cs' hb))
      unfold execOp
      simp only [hop, (ev h1).trans h4, (ev h2).trans h5, Instr.storeAt, Instr.sureAddr, Sem.run_bind, Sem.run_pure, Result.andThen_ok, hr]
    · exact (sB_false he).elim
  | cl f args v rd O wt he' h =>
    simp only [kindE] at he
    split at he
    · rename_i f' xs' ats hop
      simp only [List.mem_cons, List.not_mem_nil, or_false, forall_eq_or_imp, forall_eq, sE, sB] at he
      obtain ⟨h1, h2, h3⟩ := he
      subst h1
      have hm : xs'.map (putsH xs L 0 a).eval = args := by
        rw [map_congrA (ρ' := rhoR L a t η k) fun x hx => ev (List.all_eq_true.1 h2 x hx)]
        apply Array.toList_inj.1
        rw [Array.toList_map]
        exact h3
      refine wp_call hF hop he' hm ((h w' hH).mono ?_)
      rintro e w'' ⟨E, rfl, hst⟩
      exact ⟨_, rfl, hK E w'' hst⟩
    · exact (sB_false he).elim
  | gn s v rd O wt h =>
    simp only [kindE, List.mem_cons, List.not_mem_nil, or_false, forall_eq_or_imp, forall_eq, sE, sB] at he
    obtain ⟨E, w'', hr, hst⟩ := h w' hH
    rcases hr with hr | ⟨hr, hu⟩
    · exact wp_val hF (nd he.1) (by rw [cg he.1]; exact (congrFun he.2 w').trans hr) (hK E w'' hst)
    · refine wp_skip hF (nd he.1) (by rw [cg he.1]; exact (congrFun he.2 w').trans hr) ?_
      have := hK E w'' hst
      rw [show (Hint.gn s v rd O wt h).val E = undef from hu] at this
      exact this
end

section
variable {F : Fence} {n : Nat} {P : Program} {L : List Oper} {Q : Exit → Act → World → Prop} {a : Act} {R : List Nat} {base : World}
/-- The deeds' order. -/
def depR (drawn : Bool) (L : List Oper) : List (List Nat) := if drawn then depL L.length L [] else (List.range L.length).map List.range
theorem reOk_of (hF : Fence.free F) {DL : List (List Nat)} {CL : List (List (Nat × Bool))} {L0 : Objs} {m : Nat} {hs : Envs → List (Hint F n P)}
    (he : ∀ η, (allE L a (toldR DL CL L0 m hs) η 0 L (hs η)).map Eqn.lhs = (allE L a (toldR DL CL L0 m hs) η 0 L (hs η)).map Eqn.rhs) : ReOk F n P L Q a (toldR DL CL L0 m hs) := by
  have key : ∀ η k o, L[k]? = some o → ∃ h, (hs η)[k]? = some h ∧ ∀ e ∈ genE L a (toldR DL CL L0 m hs) η k o ++ kindE L a (toldR DL CL L0 m hs) η k o h, e.2.1 = e.2.2 := by
    intro η k o ho
    have := allE_get (Eqn.all (he η)) k o ho
    rwa [Nat.zero_add] at this
  have keyl : ∀ η k, k < L.length → ∃ o h, L[k]? = some o ∧ (hs η)[k]? = some h ∧ ∀ e ∈ genE L a (toldR DL CL L0 m hs) η k o ++ kindE L a (toldR DL CL L0 m hs) η k o h, e.2.1 = e.2.2 := by
    intro η k hk
    obtain ⟨h, h1, h2⟩ := key η k L[k] (List.getElem?_eq_getElem hk)
    exact ⟨_, h, List.getElem?_eq_getElem hk, h1, h2⟩
  refine ⟨?_, ?_, ?_, ?_, ?_, ?_, ?_, ?_, ?_, ?_, ?_⟩
  · intro η k o ho
    obtain ⟨h, h1, h2⟩ := key η k o ho
    refine kind_ok hF h ?_ ?_ ?_ ?_ (fun e hm => h2 e (List.mem_append_right _ hm))
    · funext E; simp only [toldR, h1]
    · simp only [toldR, h1]; rfl
    · funext E; simp only [toldR, h1]
    · simp only [toldR, h1]
  · intro η k o ho
    obtain ⟨h, _, h2⟩ := key η k o ho
    exact (gen_ok h2).1
  · intro k hk
    obtain ⟨o, h, _, _, h2⟩ := keyl (fun _ => Env.zero) k hk
    exact (gen_ok h2).2.1
  · intro η k hk
    obtain ⟨o, h, _, _, h2⟩ := keyl η k hk
    exact (gen_ok h2).2.2.1
  · intro η k hk
    obtain ⟨o, h, _, _, h2⟩ := keyl η k hk
    exact (gen_ok h2).2.2.2.1
  · intro η k hk
    obtain ⟨o, h, _, _, h2⟩ := keyl η k hk
    exact (gen_ok h2).2.2.2.2.1
  · intro η k hk
    obtain ⟨o, h, _, _, h2⟩ := keyl η k hk
    exact (gen_ok h2).2.2.2.2.2.1
  · intro η k hk
    obtain ⟨o, h, _, _, h2⟩ := keyl η k hk
    exact (gen_ok h2).2.2.2.2.2.2.1
  · intro η k hk
    obtain ⟨o, h, _, _, h2⟩ := keyl η k hk
    exact (gen_ok h2).2.2.2.2.2.2.2.1
  · intro η k hk
    obtain ⟨o, h, _, _, h2⟩ := keyl η k hk
    exact (gen_ok h2).2.2.2.2.2.2.2.2.1
  · intro η k hk
    obtain ⟨o, h, _, _, h2⟩ := keyl η k hk
    exact (gen_ok h2).2.2.2.2.2.2.2.2.2
/-- The slots behind the region: values without a guard are told. -/
def valE (o : Oper) (h : Hint F n P) (E : Env) (y : Value) : Value := match o.guard with | none => h.val E | some _ => y
def putE : List Oper → List (Hint F n P) → Nat → Envs → (Nat → Value) → Act → Act
  | o :: os, h :: hs, k, η, ys, a => putE os hs (k + 1) η ys (a.put o.dst (valE o h (η k) (ys k)))
  | _, _, _, _, _, a => a
theorem putE_cons {o : Oper} {os : List Oper} {h : Hint F n P} {hs : List (Hint F n P)} {k : Nat} {η : Envs} {ys : Nat → Value} {a : Act} : putE (o :: os) (h :: hs) k η ys a = putE os hs (k + 1) η ys (a.put o.dst (valE o h (η k) (ys k))) := rfl
theorem putE_nil {hs : List (Hint F n P)} {k : Nat} {η : Envs} {ys : Nat → Value} {a : Act} : putE [] hs k η ys a = a := rfl
theorem putE_eq {η : Envs} {ys : Nat → Value} {f : Nat → Value} : ∀ (os : List Oper) (hs : List (Hint F n P)) (k : Nat) (a : Act), (∀ i o, os[i]? = some o → ∃ h, hs[i]? = some h ∧ f (k + i) = valE o h (η (k + i)) (ys (k + i))) → putE os hs k η ys a = putsH f os k a
  | [], hs, k, a, _ => rfl
  | o :: os, [], k, a, h => by
    obtain ⟨h, h1, _⟩ := h 0 o rfl
    cases h1
  | o :: os, g :: hs, k, a, h => by
    obtain ⟨h', h1, h2⟩ := h 0 o rfl
    simp only [List.getElem?_cons_zero, Option.some.injEq] at h1
    subst h1
    rw [putE_cons, putE_eq os hs (k + 1) _ fun i p hp => by
      have := h (i + 1) p (by simpa using hp)
      rwa [List.getElem?_cons_succ, show k + (i + 1) = k + 1 + i by omega] at this]
    rw [Nat.add_zero] at h2
    rw [putsH, h2]
theorem wpIn_region_re [hF : FreeF F] {id : Nat} {drawn : Bool} {w : World} {L0 : Objs} (m : Nat) (hs : Envs → List (Hint F n P)) (Le : Envs → Objs → Objs) (hm : P.follows .mixedOrders = true) (OW : Hid (OwnS R base L0 w))
    (he : ∀ η, ((allE L a (toldR (depR drawn L) (cdsL L []) L0 m hs) η 0 L (hs η)).map Eqn.lhs, shapeB drawn L (fun k => (depR drawn L).getD k []), Nat.ble L0.length m, (List.range m).map (fun p => (toldR (depR drawn L) (cdsL L []) L0 m hs).at η p L.length)) =
      ((allE L a (toldR (depR drawn L) (cdsL L []) L0 m hs) η 0 L (hs η)).map Eqn.rhs, true, true, (Le η L0).map some))
    (hend : ∀ (η : Envs) (ys : Nat → Value) (w' : World), Hid (OwnS R base (Le η L0) w') → Q .normal (putE L (hs η) 0 η ys a) w') : (Code.region id L.toArray drawn).wpIn F n P Q a w := by
  have h1 := fun η => congrArg (·.1) (he η)
  have h2 : shapeB drawn L (fun k => (depR drawn L).getD k []) = true := congrArg (fun x => x.2.1) (he fun _ => Env.zero)
  have h4 := fun η => congrArg (fun x => x.2.2.2) (he η)
  simp only at h1 h4
  refine wpIn_region_reOk (t := toldR (depR drawn L) (cdsL L []) L0 m hs) hm (reOk_of hF.out h1) hF.out h2 OW (fun η => Le η L0) h4 ?_
  intro η xs w' hx hO
  have hh := hend η xs w' hO
  rw [putE_eq (f := xs) L (hs η) 0 a fun i o ho => by
    obtain ⟨h, e1, e2⟩ := allE_get (Eqn.all (h1 η)) i o ho
    refine ⟨h, e1, ?_⟩
    rw [Nat.zero_add] at e2 ⊢
    unfold valE
    cases hg : o.guard with
    | some _ => rfl
    | none =>
      have hil : i < L.length := (List.getElem?_eq_some_iff.1 ho).1
      have g1 : (toldR (depR drawn L) (cdsL L []) L0 m hs).cds i = [] := by
        have := (gen_ok e2).1
        unfold guardOk at this
        rw [hg] at this
        exact this
      have hh : (toldR (depR drawn L) (cdsL L []) L0 m hs).Hold η i := fun c hc => by rw [g1] at hc; simp at hc
      rcases hx i hil with ⟨_, h6⟩ | ⟨h6, _⟩
      · rw [h6]
        simp only [Told.vs, toldR, e1]
      · exact absurd hh h6] at hh
  exact hh
end
end Go.Proofs.Ytkeheickaogpiaa
