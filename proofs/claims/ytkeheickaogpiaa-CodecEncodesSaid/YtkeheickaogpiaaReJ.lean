/- The beginning of a region in its own order, by evaluation; what comes behind is walked. No program in sight. -/
import Derived.Test.YtkeheickaogpiaaReI
namespace Go.Proofs.Ytkeheickaogpiaa
open Go Go.RowKit Go.Shelf
/-- Guards of the beginning lie in it. -/
def guardsB (k : Nat) (L : List Oper) : Bool := L.all fun o => match o.guard with | none => true | some (j, _) => Nat.blt j k
section
variable {F : Fence} {n : Nat} {P : Program} {L : List Oper} {Q : Exit → Act → World → Prop} {a : Act} {t : Told} {R : List Nat} {base : World}
theorem wanted_take {LL : List Oper} {k : Nat} {o : Oper} {tm : Array Value} (h : match o.guard with | none => true = true | some (j, _) => Nat.blt j k = true) : Region.wanted o (yielded LL.toArray tm) = Region.wanted o (yielded (LL.take k).toArray tm) := by
  unfold Region.wanted
  cases hg : o.guard with
  | none => rfl
  | some jb =>
    obtain ⟨j, b⟩ := jb
    rw [hg] at h
    have h' : j < k := Nat.blt_eq ▸ h
    have : yielded LL.toArray tm j = yielded (LL.take k).toArray tm j := by
      unfold yielded
      rw [List.getElem?_toArray, List.getElem?_toArray, List.getElem?_take, if_pos h']
    simp only [this]
theorem wpListIn_reT {LL : List Oper} {N : Nat} (hL : LL.take N = L) (hops : guardsB N L = true) (h : ReOk F n P L Q a t) (hF : Fence.free F) (hsl : slotsB L = true) (hD : ∀ k, k < L.length → ∀ j ∈ t.D k, j < k)
    (hend : ∀ xs w', InvR L a t R base (fun _ => true) xs w' → wpListIn F n P LL.toArray Q (LL.drop N) (putsH xs L 0 a) w') :
    ∀ (d k : Nat) (xs : Nat → Value) (w' : World), k + d = L.length → InvR L a t R base (fun i => decide (i < k)) xs w' → wpListIn F n P LL.toArray Q (L.drop k ++ LL.drop N) (putsH xs L 0 a) w'
  | 0, k, xs, w', hk, hI => by
    obtain rfl : k = L.length := by omega
    rw [List.drop_length, List.nil_append]
    exact hend xs w' (hI.congr (fun i hi => by simpa using hi) (fun _ _ => rfl))
  | d + 1, k, xs, w', hk, hI => by
    have hkl : k < L.length := by omega
    rw [List.drop_eq_getElem_cons hkl, List.cons_append]
    have hol : L[k]? = some L[k] := List.getElem?_eq_getElem hkl
    have hst := re_step h (S := fun i => decide (i < k)) (xs := xs) (w' := w') (k := k) (o := L[k]) hkl hol (by simp) (fun j hj => ⟨by have := hD k hkl j hj; omega, by simpa using hD k hkl j hj⟩)
      (fun i hi hs j hj => by
        have h1 := hD i hi j hj
        have h2 : i < k := by simpa using hs
        exact ⟨by omega, by simp; omega⟩) hI
      (fun v w'' => wpListIn F n P LL.toArray Q (L.drop (k + 1) ++ LL.drop N) ((putsH xs L 0 a).put L[k].dst v) w'') (fun v w'' hI2 => by
        rw [putsH_set v _ 0 a k _ hsl hol, Nat.zero_add]
        refine wpListIn_reT hL hops h hF hsl hD hend d (k + 1) _ w'' (by omega) (hI2.congr (fun j hj => ?_) (fun _ _ => rfl))
        show (if j = k then true else decide (j < k)) = decide (j < k + 1)
        by_cases e : j = k
        · subst e; simp
        · rw [if_neg e, decide_eq_decide]; omega) hF
    have hwa : Region.wanted L[k] (yielded LL.toArray (putsH xs L 0 a).tmps) = Region.wanted L[k] (yielded L.toArray (putsH xs L 0 a).tmps) := by
      rw [wanted_take (k := N), hL]
      have := List.all_eq_true.1 hops L[k] (List.getElem_mem hkl)
      revert this
      cases L[k].guard with
      | none => exact fun h => h
      | some jb => exact fun h => h
    unfold wpListIn
    rw [hwa]
    split
    · rename_i hw
      rw [if_pos hw] at hst
      exact Oper.wpIn_mono (fun a'' w'' ⟨v, e, h⟩ => by rw [e]; exact h) hst
    · rename_i hw
      rw [if_neg hw] at hst
      exact hst
theorem reStart {w : World} (OW : Hid (OwnS R base t.L0 w)) (Le : Envs → Objs) (hLe : ∀ η, (List.range t.m).map (fun p => t.at η p L.length) = (Le η).map some) :
    (∀ xs w', InvR L a t R base (fun _ => true) xs w' → ∃ η, (∀ i, i < L.length → t.Is η i (xs i)) ∧ OwnS R base (Le η) w') ∧ InvR L a t R base (fun _ => false) (firstX L a) w ∧ putsH (firstX L a) L 0 a = a := by
  refine ⟨?_, ?_, putsH_first _ 0 a fun i o d ho hd => by
    unfold firstX
    rw [Nat.zero_add, ho, Option.bind_some, hd]⟩
  · intro xs w' ⟨η, h1, _, h3⟩
    refine ⟨η, fun i hi => h1 i hi rfl, ?_⟩
    have hl : (Le η).length = t.m := by
      have := congrArg List.length (hLe η)
      simpa using this.symm
    have hat : ∀ p, p < t.m → t.at η p L.length = (Le η)[p]? := by
      intro p hp
      have := congrArg (fun l => l[p]?) (hLe η)
      simp only [List.getElem?_map, List.getElem?_range hp, Option.map_some] at this
      cases hq : (Le η)[p]? with
      | none => rw [hq] at this; cases this
      | some x => rw [hq] at this; simpa using this
    have hmem : ∀ x ∈ Le η, ∃ p, p < t.m ∧ t.at η p L.length = some x := by
      intro x hx
      obtain ⟨p, hp, rfl⟩ := List.getElem_of_mem hx
      exact ⟨p, by omega, (hat p (by omega)).trans (List.getElem?_eq_getElem hp)⟩
    refine OwnS.mk (fun x hx => ?_) ?_ (fun x hx => ?_) h3.os h3.tape h3.output h3.size h3.far
    · obtain ⟨p, hp, e⟩ := hmem x hx
      exact h3.obj p hp x e
    · rw [List.pairwise_iff_getElem]
      intro i j hi hj hij
      exact h3.nd i j (by omega) (by omega) (by omega) _ _ ((hat i (by omega)).trans (List.getElem?_eq_getElem hi)) ((hat j (by omega)).trans (List.getElem?_eq_getElem hj))
    · obtain ⟨p, hp, e⟩ := hmem x hx
      exact h3.lo p hp x e
  · have hc0 : ∀ (wr : Nat → Wr) (p N : Nat), contAt t.L0 wr (fun _ => false) p N = t.L0[p]? := by
      intro wr p N
      induction N with
      | zero => rfl
      | succ N ih => rw [contAt_skip (.inl rfl), ih]
    have hO := OW.out
    refine ⟨fun _ => Env.zero, fun i _ hs => absurd hs Bool.false_ne_true, fun _ _ _ => rfl, ?_⟩
    have e : (fun p => contAt t.L0 (t.wr fun _ => Env.zero) (fun _ => false) p L.length) = fun p => t.L0[p]? := by funext p; exact hc0 _ _ _
    rw [e]
    refine ⟨fun p _ x hx => hO.obj x (List.mem_of_getElem? hx), fun p q _ _ hne x y hx hy => ?_, fun p _ x hx => hO.lo x (List.mem_of_getElem? hx), hO.os, hO.tape, hO.output, hO.size, hO.far⟩
    obtain ⟨h1, rfl⟩ := List.getElem?_eq_some_iff.1 hx
    obtain ⟨h2, rfl⟩ := List.getElem?_eq_some_iff.1 hy
    have hp := List.pairwise_iff_getElem.1 hO.nd
    rcases Nat.lt_or_gt_of_ne hne with l | l
    · exact hp p q h1 h2 l
    · exact Ne.symm (hp q p h2 h1 l)
theorem wpIn_region_reP [hF : FreeF F] {LL : List Oper} {id : Nat} {w : World} {L0 : Objs} (N m : Nat) (hs : Envs → List (Hint F n P)) (Le : Envs → Objs → Objs) (OW : Hid (OwnS R base L0 w))
    (he : ∀ η, ((allE (LL.take N) a (toldR (depR false (LL.take N)) (cdsL (LL.take N) []) L0 m hs) η 0 (LL.take N) (hs η)).map Eqn.lhs, shapeB false (LL.take N) (fun k => (depR false (LL.take N)).getD k []) && guardsB N (LL.take N), Nat.ble L0.length m, (List.range m).map (fun p => (toldR (depR false (LL.take N)) (cdsL (LL.take N) []) L0 m hs).at η p (LL.take N).length)) =
      ((allE (LL.take N) a (toldR (depR false (LL.take N)) (cdsL (LL.take N) []) L0 m hs) η 0 (LL.take N) (hs η)).map Eqn.rhs, true, true, (Le η L0).map some))
    (hend : ∀ (η : Envs) (ys : Nat → Value) (w' : World), Hid (OwnS R base (Le η L0) w') → wpListIn F n P LL.toArray Q (LL.drop N) (putE (LL.take N) (hs η) 0 η ys a) w') : (Code.region id LL.toArray false).wpIn F n P Q a w := by
  obtain ⟨L, hL⟩ : ∃ L, LL.take N = L := ⟨_, rfl⟩
  rw [hL] at he hend
  have h1 := fun η => congrArg (·.1) (he η)
  have h2 : (shapeB false L (fun k => (depR false L).getD k []) && guardsB N L) = true := congrArg (fun x => x.2.1) (he fun _ => Env.zero)
  have h4 := fun η => congrArg (fun x => x.2.2.2) (he η)
  simp only at h1 h4
  rw [Bool.and_eq_true] at h2
  have hk := reOk_of (Q := Q) hF.out h1
  have hsl : slotsB L = true := by
    have := h2.1
    unfold shapeB at this
    simp only [Bool.and_eq_true] at this
    exact this.1
  have hD : ∀ k, k < L.length → ∀ j ∈ (depR false L).getD k [], j < k := by
    have := h2.1
    unfold shapeB at this
    simp only [Bool.false_eq_true, if_false, Bool.and_eq_true] at this
    intro k hk j hj
    have h5 := List.all_eq_true.1 (List.all_eq_true.1 this.2 k (List.mem_range.2 hk)) j hj
    simpa using h5
  obtain ⟨s1, s2, s3⟩ := reStart (a := a) (t := toldR (depR false L) (cdsL L []) L0 m hs) (R := R) (base := base) OW (fun η => Le η L0) h4
  refine wpIn_region_lit ?_
  have hh := wpListIn_reT (Q := Q) (LL := LL) (N := N) hL h2.2 hk hF.out hsl hD (R := R) (base := base) (fun xs w' hI => ?_) L.length 0 (firstX L a) w (by omega) (s2.congr (fun i _ => by simp) (fun _ _ => rfl))
  · rw [s3, List.drop_zero, ← hL, List.take_append_drop] at hh
    exact hh
  · obtain ⟨η, hx, hO⟩ := s1 xs w' hI
    have hh := hend η xs w' (Lib.hid hO)
    rw [putE_eq (f := xs) L (hs η) 0 a fun i o ho => by
      obtain ⟨h, e1, e2⟩ := allE_get (Eqn.all (h1 η)) i o ho
      refine ⟨h, e1, ?_⟩
      rw [Nat.zero_add] at e2 ⊢
      unfold valE
      cases hg : o.guard with
      | some _ => rfl
      | none =>
        have hil : i < L.length := (List.getElem?_eq_some_iff.1 ho).1
        have g1 : (toldR (depR false L) (cdsL L []) L0 m hs).cds i = [] := by
          have := (gen_ok e2).1
          unfold guardOk at this
          rw [hg] at this
          exact this
        have hh : (toldR (depR false L) (cdsL L []) L0 m hs).Hold η i := fun c hc => by rw [g1] at hc; simp at hc
        rcases hx i hil with ⟨_, h6⟩ | ⟨h6, _⟩
        · rw [h6]
          simp only [Told.vs, toldR, e1]
        · exact absurd hh h6] at hh
    exact hh
end
end Go.Proofs.Ytkeheickaogpiaa
