/- Beginnings, ends, calls and results for regions by evaluation. No program in sight. -/
import Derived.Test.YtkeheickaogpiaaReT
import Derived.Test.YtkeheickaogpiaaOwA
namespace Go.Proofs.Ytkeheickaogpiaa
open Go Go.RowKit Go.Shelf

def sBin (op : BinOp) (T : TypeId) (x y : Operand) (vx vy : Value) : Sem Value := do eqGuard op T x y vx vy; Go.binOp op T vx vy
section
variable {R : List Nat} {base W W' w : World} {L L' R0 : Objs}
theorem OwnS.start (H : Has R0 w) : OwnS (R0.map (·.1)) w R0 w :=
  ⟨H.obj, H.nd, fun x hx => .inl (List.mem_map.2 ⟨x, hx, rfl⟩), rfl, rfl, rfl, Nat.le_refl _, fun _ _ _ => rfl⟩
theorem OwnS.get (h : OwnS R base L W) {k : Nat} {x : Nat × Obj} (hk : L[k]? = some x) : W.heap[x.1]? = some x.2 := h.obj x (List.mem_of_getElem? hk)
theorem OwnS.lt (h : OwnS R base L W) {x : Nat × Obj} (hx : x ∈ L) : x.1 < W.heap.size := (Array.getElem?_eq_some_iff.1 (h.obj x hx)).1
theorem OwnS.cast (h : OwnS R base L W) (e : L = L') : OwnS R base L' W := by rwa [e] at h
theorem OwnS.sub (h : OwnS R base L W) (hs : L'.Sublist L) : OwnS R base L' W := ⟨fun x hx => h.obj x (hs.subset hx), h.nd.sublist hs, fun x hx => h.lo x (hs.subset hx), h.os, h.tape, h.output, h.size, h.far⟩
/-- What comes behind the first n is forgotten. -/
theorem OwnS.take (n : Nat) (h : OwnS R base L W) : OwnS R base (L.take n) W := h.sub (List.take_sublist _ _)
/-- Just what is named, in that order. -/
theorem OwnS.pick (h : OwnS R base L W) (ps : List Nat) (N : Objs) (he : (nodupB ps, ps.map (fun p => L[p]?)) = (true, N.map some)) : OwnS R base N W := by
  have h1 : nodupB ps = true := congrArg (·.1) he
  have h2 : ps.map (fun p => L[p]?) = N.map some := congrArg (·.2) he
  have hl : ps.length = N.length := by simpa using congrArg List.length h2
  have hat : ∀ i (hi : i < ps.length) (hj : i < N.length), L[ps[i]]? = some N[i] := by
    intro i hi hj
    have := congrArg (fun l => l[i]?) h2
    simpa [hi, hj] using this
  have hmem : ∀ x ∈ N, x ∈ L := by
    intro x hx
    obtain ⟨i, hi, rfl⟩ := List.getElem_of_mem hx
    exact List.mem_of_getElem? (hat i (by omega) hi)
  refine ⟨fun x hx => h.obj x (hmem x hx), ?_, fun x hx => h.lo x (hmem x hx), h.os, h.tape, h.output, h.size, h.far⟩
  rw [List.pairwise_iff_getElem]
  intro i j hi hj hij
  have hi' : i < ps.length := by omega
  have hj' : j < ps.length := by omega
  have hne : ps[i] ≠ ps[j] := by
    have hnd := nodupB_spec h1
    unfold List.Nodup at hnd
    exact (List.pairwise_iff_getElem.1 hnd) i j hi' hj' hij
  obtain ⟨h5, h6⟩ := List.getElem?_eq_some_iff.1 (hat i hi' hi)
  obtain ⟨h7, h8⟩ := List.getElem?_eq_some_iff.1 (hat j hj' hj)
  rw [← h6, ← h8]
  have hp := List.pairwise_iff_getElem.1 h.nd
  rcases Nat.lt_or_gt_of_ne hne with l | l
  · exact hp _ _ h5 h7 l
  · exact Ne.symm (hp _ _ h7 h5 l)
/-- What a call tells of the memory: O may be other ones now, those at ks (of what it was given) are as they were; N is told. -/
theorem OwnS.fin (H : Has R0 w) (h : OwnS (R0.map (·.1)) w L W) (O : List Nat) (N : Objs) (ps ks : List Nat)
    (he : (nodupB ps, ps.map (fun p => L[p]?), ks.map (fun p => L[p]?), ps.all (fun p => !ks.contains p), O) = (true, N.map some, ks.map (fun p => R0[p]?), true, ((List.range R0.length).filter fun i => !ks.contains i).filterMap fun i => (R0[i]?).map (·.1))) : Step O N w W := by
  have h1 : nodupB ps = true := congrArg (·.1) he
  have h2 : ps.map (fun p => L[p]?) = N.map some := congrArg (·.2.1) he
  have h3 : ks.map (fun p => L[p]?) = ks.map (fun p => R0[p]?) := congrArg (·.2.2.1) he
  have h4 : ps.all (fun p => !ks.contains p) = true := congrArg (·.2.2.2.1) he
  have h5 : O = ((List.range R0.length).filter fun i => !ks.contains i).filterMap fun i => (R0[i]?).map (·.1) := congrArg (·.2.2.2.2) he
  have hp := h.pick ps N (by rw [h1, h2])
  have inO : ∀ i (hi : i < R0.length), i ∉ ks → R0[i].1 ∈ O := by
    intro i hi hk
    rw [h5, List.mem_filterMap]
    exact ⟨i, List.mem_filter.2 ⟨List.mem_range.2 hi, by simpa using hk⟩, by rw [List.getElem?_eq_getElem hi]; rfl⟩
  have at3 : ∀ i ∈ ks, L[i]? = R0[i]? := by
    intro i hi
    obtain ⟨j, hj, rfl⟩ := List.getElem_of_mem hi
    have := congrArg (fun l => l[j]?) h3
    simpa [hj] using this
  have hl : ps.length = N.length := by simpa using congrArg List.length h2
  refine ⟨h.os, h.tape, h.output, h.size, hp.obj, fun x hx => ?_, hp.nd, fun b hb hn => ?_⟩
  · rcases hp.lo x hx with h6 | h6
    · refine .inl ?_
      obtain ⟨y, hy, e⟩ := List.mem_map.1 h6
      obtain ⟨i, hi, rfl⟩ := List.getElem_of_mem hy
      by_cases hk : i ∈ ks
      · exfalso
        have h7 := at3 i hk
        rw [List.getElem?_eq_getElem hi] at h7
        obtain ⟨j, hj, rfl⟩ := List.getElem_of_mem hx
        have h8 := congrArg (fun l => l[j]?) h2
        have hj' : j < ps.length := by omega
        simp only [List.getElem?_map, List.getElem?_eq_getElem hj', List.getElem?_eq_getElem hj, Option.map_some, Option.some.injEq] at h8
        have h9 := List.all_eq_true.1 h4 ps[j] (List.getElem_mem hj')
        have hne : ps[j] ≠ i := fun e => by rw [e] at h9; simp [hk] at h9
        obtain ⟨q1, q2⟩ := List.getElem?_eq_some_iff.1 h7
        obtain ⟨q3, q4⟩ := List.getElem?_eq_some_iff.1 h8
        have hpw := List.pairwise_iff_getElem.1 h.nd
        have hcon : (L[ps[j]]).1 = (L[i]).1 := by rw [q4, q2, e]
        rcases Nat.lt_or_gt_of_ne hne with l | l
        · exact hpw _ _ q3 q1 l hcon
        · exact hpw _ _ q1 q3 l hcon.symm
      · rw [← e]; exact inO i hi hk
    · exact .inr h6
  · by_cases hm : b ∈ R0.map (·.1)
    · obtain ⟨y, hy, e⟩ := List.mem_map.1 hm
      obtain ⟨i, hi, rfl⟩ := List.getElem_of_mem hy
      by_cases hk : i ∈ ks
      · have h7 := at3 i hk
        rw [List.getElem?_eq_getElem hi] at h7
        rw [← e]
        exact (h.get h7).trans (H.obj _ (List.getElem_mem hi)).symm
      · exact absurd (inO i hi hk) (by rw [e]; exact hn)
    · exact h.far b hb hm
theorem Step.b (h : Step [] [] w W) : Below w.heap.size w W := ⟨h.os, h.tape, h.output, h.size, fun b hb => h.far b hb (by simp)⟩
theorem OwnS.done (h : OwnS [] base L W) : Below base.heap.size base W := ⟨h.os, h.tape, h.output, h.size, fun b hb => h.far b hb (by simp)⟩
theorem has_nil {w : World} : Has [] w := ⟨fun _ h => by simp at h, List.Pairwise.nil⟩
end
section
variable {F : Fence} {n : Nat} {P : Program} {f : FuncId} {args : Array Value} {w' : World} {v : Value}
/-- Contracts that keep all blocks. -/
theorem cB (h : CallsIn F n P f args w' fun e w'' => e = .returned v ∧ Below w'.heap.size w' w'') : CallsIn F n P f args w' fun e w'' => ∃ E : Env, e = .returned ((fun _ => v) E) ∧ Step [] ((([] : Wr)).map (·.2)) w' w'' :=
  h.mono fun _ _ h => ⟨Env.zero, h.1, Step.below h.2⟩
theorem cS (h : CallsIn F n P f args w' fun e w'' => e = .returned v ∧ w' = w'') : CallsIn F n P f args w' fun e w'' => ∃ E : Env, e = .returned ((fun _ => v) E) ∧ Step [] ((([] : Wr)).map (·.2)) w' w'' :=
  h.mono fun _ _ h => ⟨Env.zero, h.1, by rw [← h.2]; exact Step.refl _⟩
end

/-- Results: a slot's; a cell's; a struct's; a row's. -/
inductive RV (P : Program) : Type
  | t (v : Value)
  | c (v : Value) (k : Nat)
  | s (l : List Value) (k : Nat)
  | r (cs : Array Value) (k : Nat) (T : TypeId) (h : (P.info? T).map (·.size) = some cs.size)
def RV.val {P : Program} : RV P → Value
  | t v => v
  | c v _ => v
  | s l _ => .agg l.toArray
  | r cs _ _ _ => .agg cs
section
variable {P : Program} {L : Objs} {tmps : Array Value}
def resE (P : Program) (L : Objs) (tmps : Array Value) : List ResultVar → List (RV P) → List Eqn
  | [], [] => []
  | .tmp i :: rs, .t v :: vs => sE (tmps.getD i undef) v :: resE P L tmps rs vs
  | .cell p T :: rs, .c v k :: vs => (match L[k]? with
    | some (g, .cells cs _ (0, 0)) => [sE (tmps.getD p undef) (ptrV g 0), sE cs[0]? (some v), sE (fun w => (isAgg T).run P w) (fun w => .ok false w)]
    | _ => [sB false]) ++ resE P L tmps rs vs
  | .cell p T :: rs, .s l k :: vs => (match L[k]? with
    | some (g, .cells cs _ (0, 0)) => [sE (tmps.getD p undef) (ptrV g 0), sE ((cs.toList.drop 0).take l.length) l, sB (aggB P T), sE ((P.info? T).map (·.size)) (some l.length)]
    | _ => [sB false]) ++ resE P L tmps rs vs
  | .cell p T :: rs, .r cs k T' _ :: vs => (match L[k]? with
    | some (g, .cells cs' _ (0, 0)) => [sE (tmps.getD p undef) (ptrV g 0), sE cs' cs, sE T T', sB (aggB P T)]
    | _ => [sB false]) ++ resE P L tmps rs vs
  | _, _ => [sB false]
def outV : List (RV P) → Value
  | [v] => v.val
  | vs => .tuple (vs.map RV.val).toArray
def resF (tmps : Array Value) : ResultVar → Sem Value
  | .tmp t => pure (tmps.getD t undef)
  | .cell a t => do loadVar t (← asAddr (tmps.getD a undef))
theorem run_resF {p g : Nat} {T : TypeId} {v : Value} {W : World} (h : tmps.getD p undef = ptrV g 0) (hr : (loadVar T ⟨g, 0, none⟩).run P W = .ok v W) : (resF tmps (.cell p T)).run P W = .ok v W := by
  have h' : tmps[p]?.getD undef = .pointer (some ⟨g, 0, none⟩) := by simpa [ptrV] using h
  simp [resF, h', asAddr, hr]
theorem resF_all {R : List Nat} {base W : World} (hO : OwnS R base L W) : ∀ (rs : List ResultVar) (vs : List (RV P)), (∀ e ∈ resE P L tmps rs vs, e.2.1 = e.2.2) → (rs.mapM (resF tmps)).run P W = .ok (vs.map RV.val) W := by
  intro rs
  induction rs with
  | nil =>
    intro vs he
    cases vs with
    | nil => simp
    | cons v vs => exact (sB_false (by simpa [resE] using he)).elim
  | cons x rs ih =>
    intro vs he
    cases vs with
    | nil => exact (sB_false (by simpa [resE] using he)).elim
    | cons v vs =>
      have tail : ∀ {w : Value}, (resF tmps x).run P W = .ok w W → v.val = w → (∀ e ∈ resE P L tmps rs vs, e.2.1 = e.2.2) → ((x :: rs).mapM (resF tmps)).run P W = .ok ((v :: vs).map RV.val) W := by
        intro w h1 h2 h3
        rw [List.mapM_cons]
        simp only [Sem.run_bind, h1, ih vs h3, Result.andThen_ok, Sem.run_pure, List.map_cons, h2]
      cases x with
      | tmp i =>
        cases v with
        | t v =>
          simp only [resE, List.mem_cons, forall_eq_or_imp, sE] at he
          exact tail (w := v) (by simp only [resF, Sem.run_pure]; rw [he.1]) rfl he.2
        | _ => exact (sB_false (by simpa only [resE] using he)).elim
      | cell p T =>
        cases v with
        | t v => exact (sB_false (by simpa only [resE] using he)).elim
        | c v k =>
          simp only [resE] at he
          split at he
          · rename_i g cs ty hat
            simp only [List.mem_append, List.mem_cons, List.not_mem_nil, or_false, or_imp, forall_and, forall_eq, sE] at he
            obtain ⟨⟨h1, h2, h3⟩, h4⟩ := he
            have hb : Blk W g ty cs := hO.get hat
            exact tail (run_resF h1 (run_loadVar_cell (congrFun h3 W) ((hb.cell 0).trans h2))) rfl h4
          · exact (sB_false fun e he' => he e (List.mem_append_left _ he')).elim
        | s l k =>
          simp only [resE] at he
          split at he
          · rename_i g cs ty hat
            simp only [List.mem_append, List.mem_cons, List.not_mem_nil, or_false, or_imp, forall_and, forall_eq, sE, sB] at he
            obtain ⟨⟨h1, h2, h3, h5⟩, h4⟩ := he
            exact tail (run_resF h1 (run_ls (hO.get hat) h2 h3 h5)) rfl h4
          · exact (sB_false fun e he' => he e (List.mem_append_left _ he')).elim
        | r cs k T' h =>
          simp only [resE] at he
          split at he
          · rename_i g cs' ty hat
            simp only [List.mem_append, List.mem_cons, List.not_mem_nil, or_false, or_imp, forall_and, forall_eq, sE, sB] at he
            obtain ⟨⟨h1, h2, h3, h5⟩, h4⟩ := he
            subst h2
            subst h3
            exact tail (run_resF h1 (run_lr (hO.get hat) h5 h)) rfl h4
          · exact (sB_false fun e he' => he e (List.mem_append_left _ he')).elim
theorem resS {R : List Nat} {base W : World} {fn : Func} (hO : OwnS R base L W) (vs : List (RV P)) (he : (resE P L tmps fn.results.toList vs).map Eqn.lhs = (resE P L tmps fn.results.toList vs).map Eqn.rhs) : (results fn tmps).run P W = .ok (outV vs) W := by
  have h := resF_all hO _ _ (Eqn.all he)
  have h2 : (fn.results.mapM (resF tmps)).run P W = .ok (vs.map RV.val).toArray W := by
    rw [Array.mapM_eq_mapM_toList, map_eq_pure_bind, Sem.run_bind, h]
    simp only [Result.andThen_ok, Sem.run_pure]
  unfold results
  show Sem.run P (bind (fn.results.mapM (resF tmps)) _) W = _
  rw [Sem.run_bind, h2]
  simp only [Result.andThen_ok, Sem.run_pure]
  cases vs with
  | nil => rfl
  | cons v vs =>
    cases vs with
    | nil => rfl
    | cons u vs => rw [dif_neg (by simp)]; rfl
end
/-- A call's end: what lies where the results lie, and what has become of the memory. -/
theorem leavesS {F : Fence} {n : Nat} {P : Program} {fn : Func} {tmps : Array Value} {R : Ending → World → Prop} {R1 : List Nat} {base : World} {L : Objs} {W : World} (OW : Hid (OwnS R1 base L W)) (vs : List (RV P)) (he : (resE P L tmps fn.results.toList vs).map Eqn.lhs = (resE P L tmps fn.results.toList vs).map Eqn.rhs)
    (h : OwnS R1 base L W → R (.returned (outV vs)) W) : LeavesInM F n P fn tmps R [] .returning W := ⟨_, resS OW.out vs he, h OW.out⟩
end Go.Proofs.Ytkeheickaogpiaa
