/- A region in every order, or in its own: the walk by what its operations do. No program in sight. -/
import Derived.Test.YtkeheickaogpiaaReR
namespace Go.Proofs.Ytkeheickaogpiaa
open Go Go.RowKit Go.Shelf
section
variable {F : Fence} {n : Nat} {P : Program} {L : List Oper} {Q : Exit → Act → World → Prop} {a : Act} {t : Told} {R : List Nat} {base : World}
theorem InvR.congr {S S' : Nat → Bool} {xs xs' : Nat → Value} {w : World} (h : InvR L a t R base S xs w) (hs : ∀ i, i < L.length → S i = S' i) (hx : ∀ i, i < L.length → xs i = xs' i) : InvR L a t R base S' xs' w := by
  obtain ⟨η, h1, h2, h3⟩ := h
  refine ⟨η, fun i hi hS => by rw [← hx i hi]; exact h1 i hi (by rw [hs i hi]; exact hS), fun i hi hS => by rw [← hx i hi]; exact h2 i hi (by rw [hs i hi]; exact hS), ?_⟩
  have e : (fun p => contAt t.L0 (t.wr η) S' p L.length) = fun p => contAt t.L0 (t.wr η) S p L.length := by
    funext p
    exact (contAt_congr fun j hj => ⟨hs j hj, fun _ => rfl⟩).symm
  rw [e]
  exact h3
theorem InvR.drew {S : Nat → Bool} {xs : Nat → Value} {w : World} (h : InvR L a t R base S xs w) : InvR L a t R base S xs w.drew := by
  obtain ⟨η, h1, h2, h3⟩ := h
  exact ⟨η, h1, h2, h3.obj, h3.nd, h3.lo, h3.os, h3.tape, h3.output, h3.size, h3.far⟩
theorem wpAnyIn_re (h : ReOk F n P L Q a t) (hF : Fence.free F) (hc : Region.chainB .any L.toArray L.length = true) (hb : backB .any L.toArray L.length = true) (hb0 : backB .any L.toArray 0 = true) (hsl : slotsB L = true) (hD : depsB .any L.toArray L.length t.D = true)
    (hend : ∀ xs w', InvR L a t R base (fun _ => true) xs w' → Q .normal (putsH xs L 0 a) w') :
    ∀ (c fuel : Nat) (listed : Array Bool) (xs : Nat → Value) (w' : World), cntH listed L.length = c → c ≤ fuel → HeadInv .any L.toArray L.length listed →
      (∀ i, i < L.length → listed.getD i false = true → ∀ j ∈ t.D i, listed.getD j false = true) → InvR L a t R base (fun i => listed.getD i false) xs w' → wpAnyIn F n P .any L.toArray Q fuel listed (putsH xs L 0 a) w'
  | 0, fuel, listed, xs, w', hcnt, hf, inv, hk, hI => by
    have hall := cntH_zero L.length hcnt
    have hall2 : ∀ i, i < L.length → listed.getD i false = true := by
      intro i hi
      have h2 : i < listed.size := by rw [inv.size, List.size_toArray]; omega
      have := hall i hi
      simp [h2] at this ⊢
      exact this
    refine wpAnyIn_chain hc hb 0 L.length fuel listed _ w' (by rw [List.size_toArray]; omega) (Nat.le_refl _) (by omega) inv.size hall hall2 inv.tail ?_
    have e : L.toArray.toList.drop L.length = [] := by simp
    rw [e]
    exact hend xs w' (hI.congr (fun i hi => hall2 i hi) (fun _ _ => rfl))
  | c + 1, fuel, listed, xs, w', hcnt, hf, inv, hk, hI => by
    obtain ⟨f, rfl⟩ : ∃ f, fuel = f + 1 := ⟨fuel - 1, by omega⟩
    have hun : ∃ i, i < L.length ∧ listed.getD i true = false := by
      apply Classical.byContradiction
      intro hno
      have hall : ∀ i, i < L.length → listed.getD i true = true := fun i hi => by
        cases hl : listed.getD i true with
        | true => rfl
        | false => exact (hno ⟨i, hi, hl⟩).elim
      have : ∀ k, k ≤ L.length → cntH listed k = 0 := by
        intro k
        induction k with
        | zero => intro _; rfl
        | succ k ih => intro h; unfold cntH; rw [ih (by omega), hall k (by omega)]; rfl
      rw [this L.length (Nat.le_refl _)] at hcnt
      omega
    obtain ⟨i0, hi0, hu0⟩ := hun
    have some : Region.ready .any L.toArray listed = [] → ∀ d i, i = d → i < L.length → listed.getD i true = true := by
      intro hnil d
      induction d using Nat.strongRecOn with
      | _ d ih =>
        rintro i rfl hi
        cases hl : listed.getD i true with
        | true => rfl
        | false =>
          exfalso
          have hilt : i < L.toArray.size := by rw [List.size_toArray]; omega
          have hok : L.toArray[i]? = some L.toArray[i] := Array.getElem?_eq_getElem hilt
          have hB := List.all_eq_true.1 hb0 i (List.mem_range.2 hilt)
          rw [hok] at hB
          simp only [Bool.or_eq_true, decide_eq_true_eq, Option.map_some, Option.getD_some, Nat.not_lt_zero, false_or] at hB
          have : i ∈ Region.ready .any L.toArray listed := mem_ready.2 ⟨hl, _, hok, fun e he hbd => by
            have h2 := Array.all_eq_true'.1 hB e he
            rw [hbd] at h2
            have h3 : e.on < i := by simpa using h2
            have h4 := ih e.on h3 e.on rfl (by omega)
            have h5 : e.on < listed.size := by rw [inv.size, List.size_toArray]; omega
            rw [Array.getD_eq_getD_getElem?, Array.getElem?_eq_getElem h5] at h4 ⊢
            exact h4⟩
          rw [hnil] at this; cases this
    refine ⟨fun hnil => (by have := some hnil i0 i0 rfl hi0; rw [hu0] at this; cases this), fun i hi => ?_⟩
    have hiN : i < L.length := by
      obtain ⟨_, o, ho, _⟩ := mem_ready.1 hi
      have := (Array.getElem?_eq_some_iff.1 ho).1
      rwa [List.size_toArray] at this
    obtain ⟨hl, o, ho, hall⟩ := mem_ready.1 hi
    have hol : L[i]? = Option.some o := by rw [← List.getElem?_toArray]; exact ho
    have hDi : ∀ j ∈ t.D i, j < L.length ∧ listed.getD j false = true := by
      intro j hj
      have h1 := List.all_eq_true.1 (List.all_eq_true.1 hD i (List.mem_range.2 hiN)) j hj
      rw [ho] at h1
      simp only [Option.map_some, Option.getD_some, Bool.and_eq_true, decide_eq_true_eq] at h1
      refine ⟨h1.1, ?_⟩
      obtain ⟨e, he, h2⟩ := Array.any_eq_true'.1 h1.2
      simp only [Bool.and_eq_true, Bool.or_eq_true, beq_iff_eq, decide_eq_true_eq] at h2
      have h3 := hall e he h2.1
      rcases h2.2 with h4 | ⟨h4, h5⟩
      · rw [← h4]; exact h3
      · exact hk e.on h4 h3 j (by simpa using h5)
    have hDlt : ∀ i, i < L.length → ∀ j ∈ t.D i, j < L.length := by
      intro i hi j hj
      have h1 := List.all_eq_true.1 (List.all_eq_true.1 hD i (List.mem_range.2 hi)) j hj
      simp only [Bool.and_eq_true, decide_eq_true_eq] at h1
      exact h1.1
    have hSi : listed.getD i false = false := by
      have h2 : i < listed.size := by rw [inv.size, List.size_toArray]; omega
      simp [h2] at hl ⊢
      exact hl
    have hst := re_step h (S := fun i => listed.getD i false) (xs := xs) (w' := w') (k := i) (o := o) hiN hol hSi (fun j hj => hDi j hj) (fun i' hi' hs j hj => ⟨hDlt i' hi' j hj, hk i' hi' hs j hj⟩) hI
      (fun v w'' => wpAnyIn F n P .any L.toArray Q f (listed.setIfInBounds i true) ((putsH xs L 0 a).put o.dst v) w'') (fun v w'' hI2 => by
        rw [putsH_set v _ 0 a i o hsl hol, Nat.zero_add]
        refine wpAnyIn_re h hF hc hb hb0 hsl hD hend c f _ _ w'' (by have := cntH_set hl L.length hiN; omega) (by omega) (inv.set hi hiN) ?_ (hI2.congr (fun j hj => ?_) (fun _ _ => rfl))
        · intro j hj hlj j' hj'
          by_cases e : j = i
          · subst e
            exact getD_set_true (hDi j' hj').2
          · rw [getD_set_ne false (Ne.symm e)] at hlj
            exact getD_set_true (hk j hj hlj j' hj')
        · show (if j = i then true else listed.getD j false) = _
          by_cases e : j = i
          · subst e
            have h2 : j < listed.size := by rw [inv.size, List.size_toArray]; omega
            simp [h2]
          · rw [if_neg e, getD_set_ne false (Ne.symm e)]) hF
    unfold wpOpIn
    simp only [ho]
    split
    · rename_i hw
      rw [if_pos hw] at hst
      exact Oper.wpIn_mono (fun a'' w'' ⟨v, e, h⟩ => by rw [e]; exact h) hst
    · rename_i hw
      rw [if_neg hw] at hst
      exact hst
theorem wpListIn_re (h : ReOk F n P L Q a t) (hF : Fence.free F) (hsl : slotsB L = true) (hD : ∀ k, k < L.length → ∀ j ∈ t.D k, j < k)
    (hend : ∀ xs w', InvR L a t R base (fun _ => true) xs w' → Q .normal (putsH xs L 0 a) w') :
    ∀ (d k : Nat) (xs : Nat → Value) (w' : World), k + d = L.length → InvR L a t R base (fun i => decide (i < k)) xs w' → wpListIn F n P L.toArray Q (L.drop k) (putsH xs L 0 a) w'
  | 0, k, xs, w', hk, hI => by
    obtain rfl : k = L.length := by omega
    rw [List.drop_length]
    exact hend xs w' (hI.congr (fun i hi => by simpa using hi) (fun _ _ => rfl))
  | d + 1, k, xs, w', hk, hI => by
    have hkl : k < L.length := by omega
    rw [List.drop_eq_getElem_cons hkl]
    have hol : L[k]? = some L[k] := List.getElem?_eq_getElem hkl
    have hst := re_step h (S := fun i => decide (i < k)) (xs := xs) (w' := w') (k := k) (o := L[k]) hkl hol (by simp) (fun j hj => ⟨by have := hD k hkl j hj; omega, by simpa using hD k hkl j hj⟩)
      (fun i hi hs j hj => by
        have h1 := hD i hi j hj
        have h2 : i < k := by simpa using hs
        exact ⟨by omega, by simp; omega⟩) hI
      (fun v w'' => wpListIn F n P L.toArray Q (L.drop (k + 1)) ((putsH xs L 0 a).put L[k].dst v) w'') (fun v w'' hI2 => by
        rw [putsH_set v _ 0 a k _ hsl hol, Nat.zero_add]
        refine wpListIn_re h hF hsl hD hend d (k + 1) _ w'' (by omega) (hI2.congr (fun j hj => ?_) (fun _ _ => rfl))
        show (if j = k then true else decide (j < k)) = decide (j < k + 1)
        by_cases e : j = k
        · subst e; simp
        · rw [if_neg e, decide_eq_decide]; omega) hF
    unfold wpListIn
    split
    · rename_i hw
      rw [if_pos hw] at hst
      exact Oper.wpIn_mono (fun a'' w'' ⟨v, e, h⟩ => by rw [e]; exact h) hst
    · rename_i hw
      rw [if_neg hw] at hst
      exact hst
/-- What must be seen of the region itself. -/
def shapeB (drawn : Bool) (L : List Oper) (D : Nat → List Nat) : Bool :=
  slotsB L && (if drawn then Region.chainB .any L.toArray L.length && backB .any L.toArray L.length && backB .any L.toArray 0 && depsB .any L.toArray L.length D
    else (List.range L.length).all fun k => (D k).all fun j => decide (j < k))
theorem wpIn_region_reOk {id : Nat} {drawn : Bool} {w : World} (hm : P.follows .mixedOrders = true) (h : ReOk F n P L Q a t) (hF : Fence.free F) (hs : shapeB drawn L t.D = true)
    (OW : Hid (OwnS R base t.L0 w)) (Le : Envs → Objs) (hLe : ∀ η, (List.range t.m).map (fun p => t.at η p L.length) = (Le η).map some)
    (hend : ∀ (η : Envs) (xs : Nat → Value) (w' : World), (∀ i, i < L.length → t.Is η i (xs i)) → Hid (OwnS R base (Le η) w') → Q .normal (putsH xs L 0 a) w') : (Code.region id L.toArray drawn).wpIn F n P Q a w := by
  have hend2 : ∀ xs w', InvR L a t R base (fun _ => true) xs w' → Q .normal (putsH xs L 0 a) w' := by
    intro xs w' ⟨η, h1, _, h3⟩
    refine hend η xs w' (fun i hi => h1 i hi rfl) ?_
    have hl : (Le η).length = t.m := by
      have := congrArg List.length (hLe η)
      simpa using this.symm
    have hat : ∀ p, p < t.m → t.at η p L.length = (Le η)[p]? := by
      intro p hp
      have := congrArg (fun l => l[p]?) (hLe η)
      simp only [List.getElem?_map, List.getElem?_range hp, Option.map_some] at this
      cases hq : (Le η)[p]? with
      | none => rw [hq] at this; cases this
      | some x => rw [hq] at this; simpa using this
    have hmem : ∀ x ∈ Le η, ∃ p, p < t.m ∧ t.at η p L.length = some x := by
      intro x hx
      obtain ⟨p, hp, rfl⟩ := List.getElem_of_mem hx
      exact ⟨p, by omega, (hat p (by omega)).trans (List.getElem?_eq_getElem hp)⟩
    refine Lib.hid (OwnS.mk (fun x hx => ?_) ?_ (fun x hx => ?_) h3.os h3.tape h3.output h3.size h3.far)
    · obtain ⟨p, hp, e⟩ := hmem x hx
      exact h3.obj p hp x e
    · rw [List.pairwise_iff_getElem]
      intro i j hi hj hij
      exact h3.nd i j (by omega) (by omega) (by omega) _ _ ((hat i (by omega)).trans (List.getElem?_eq_getElem hi)) ((hat j (by omega)).trans (List.getElem?_eq_getElem hj))
    · obtain ⟨p, hp, e⟩ := hmem x hx
      exact h3.lo p hp x e
  have h0 : putsH (firstX L a) L 0 a = a := putsH_first _ 0 a fun i o d ho hd => by
    unfold firstX
    rw [Nat.zero_add, ho, Option.bind_some, hd]
  have hc0 : ∀ (wr : Nat → Wr) (p N : Nat), contAt t.L0 wr (fun _ => false) p N = t.L0[p]? := by
    intro wr p N
    induction N with
    | zero => rfl
    | succ N ih => rw [contAt_skip (.inl rfl), ih]
  have hI0 : InvR L a t R base (fun _ => false) (firstX L a) w := by
    have hO := OW.out
    refine ⟨fun _ => Env.zero, fun i _ hs => absurd hs Bool.false_ne_true, fun _ _ _ => rfl, ?_⟩
    have e : (fun p => contAt t.L0 (t.wr fun _ => Env.zero) (fun _ => false) p L.length) = fun p => t.L0[p]? := by funext p; exact hc0 _ _ _
    rw [e]
    refine ⟨fun p _ x hx => hO.obj x (List.mem_of_getElem? hx), fun p q _ _ hne x y hx hy => ?_, fun p _ x hx => hO.lo x (List.mem_of_getElem? hx), hO.os, hO.tape, hO.output, hO.size, hO.far⟩
    obtain ⟨h1, rfl⟩ := List.getElem?_eq_some_iff.1 hx
    obtain ⟨h2, rfl⟩ := List.getElem?_eq_some_iff.1 hy
    have hp := List.pairwise_iff_getElem.1 hO.nd
    rcases Nat.lt_or_gt_of_ne hne with l | l
    · exact hp p q h1 h2 l
    · exact Ne.symm (hp q p h2 h1 l)
  unfold shapeB at hs
  simp only [Bool.and_eq_true] at hs
  obtain ⟨hsl, hs⟩ := hs
  cases drawn with
  | true =>
    simp only [if_true, Bool.and_eq_true] at hs
    obtain ⟨⟨⟨hc, hb⟩, hb0⟩, hD⟩ := hs
    refine wpIn_region_any hm ?_
    have hle : ∀ k, cntH (Array.replicate L.length false) k ≤ k := by
      intro k
      induction k with
      | zero => exact Nat.le_refl _
      | succ k ih => unfold cntH; split <;> omega
    have h := wpAnyIn_re (R := R) (base := base) h hF hc hb hb0 hsl hD hend2 _ L.toArray.size (Array.replicate L.length false) (firstX L a) w.drew rfl (by rw [List.size_toArray]; exact hle _)
      ⟨by simp, fun j oj _ hl e _ _ => (by rw [getD_replicate_false] at hl; exact Bool.noConfusion hl), fun t _ htt => (by rw [List.size_toArray] at htt; simp [htt])⟩ (fun i _ hl => (by rw [getD_replicate_false] at hl; exact Bool.noConfusion hl))
      (hI0.drew.congr (fun i _ => (getD_replicate_false _ _).symm) (fun _ _ => rfl))
    rw [h0] at h
    simpa using h
  | false =>
    simp only [Bool.false_eq_true, if_false] at hs
    refine wpIn_region_lit ?_
    have h := wpListIn_re (R := R) (base := base) h hF hsl (fun k hk j hj => by
      have := List.all_eq_true.1 (List.all_eq_true.1 hs k (List.mem_range.2 hk)) j hj
      simpa using this) hend2 L.length 0 (firstX L a) w (by omega) (hI0.congr (fun i _ => by simp) (fun _ _ => rfl))
    rw [h0, List.drop_zero] at h
    exact h
end
end Go.Proofs.Ytkeheickaogpiaa
