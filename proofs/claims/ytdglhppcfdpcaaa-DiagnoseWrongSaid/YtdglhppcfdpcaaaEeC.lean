/- Several texts in one: Eg Eh Ei. -/
import Derived.Test.YtdglhppcfdpcaaaEeB
import Derived.Test.YtdglhppcfdpcaaaOwX
import Derived.Test.YtdglhppcfdpcaaaRfX
namespace Go.Proofs.Ytdglhppcfdpcaaa.E
open Go Go.RowKit Go.Shelf
section
variable {R : List Nat} {base W W' w : World} {L L' N : Ents}

theorem satL_get : ∀ {L : Ents} {cs : List Objs}, SatL L cs → ∀ {i : Nat} {x : Ent}, L[i]? = some x → x.sat (cs.getD i [])
  | y :: L, c :: cs, h, 0, x, hx => by simp only [List.getElem?_cons_zero, Option.some.injEq] at hx; subst hx; exact h.1
  | y :: L, c :: cs, h, i + 1, x, hx => satL_get h.2 (by simpa using hx)
  | [], [], _, i, x, hx => by simp at hx
  | [], _ :: _, h, _, _, _ => h.elim
  | _ :: _, [], h, _, _, _ => h.elim
theorem satL_of {c : Cnc} : ∀ {L : Ents} {ps : List Nat}, ps.length = L.length → (∀ (i : Nat) (x : Ent), L[i]? = some x → x.sat (c (ps.getD i 0))) → SatL L (ps.map c)
  | [], [], _, _ => trivial
  | x :: L, p :: ps, h, hs => ⟨hs 0 x rfl, satL_of (by simpa using h) fun i y hy => hs (i + 1) y (by simpa using hy)⟩
  | [], _ :: _, h, _ => by simp at h
  | _ :: _, [], h, _ => by simp at h
theorem satL_cons {x : Ent} {xs : Ents} {cs : List Objs} (h : SatL (x :: xs) cs) : ∃ d ds, cs = d :: ds ∧ x.sat d ∧ SatL xs ds := by
  cases cs with
  | nil => exact h.elim
  | cons d ds => exact ⟨d, ds, rfl, h.1, h.2⟩
theorem satL_nil {cs : List Objs} (h : SatL [] cs) : cs = [] := by
  cases cs with
  | nil => rfl
  | cons d ds => exact h.elim
theorem mem_getD {α : Type} {d : α} {cs : List α} {i : Nat} (h : i < cs.length) : cs.getD i d ∈ cs := by
  rw [List.getD_eq_getElem?_getD, List.getElem?_eq_getElem h]; exact List.getElem_mem h
theorem getD_out {α : Type} {d : α} {cs : List α} {i : Nat} (h : ¬ i < cs.length) : cs.getD i d = d := by
  rw [List.getD_eq_getElem?_getD, List.getElem?_eq_none (by omega)]; rfl
/-- The lists of a pairwise apart list of lists. -/
theorem flat_apart {cs : List Objs} (h : cs.flatten.Pairwise fun x y => x.1 ≠ y.1) : (∀ i, (cs.getD i []).Pairwise fun x y => x.1 ≠ y.1) ∧ ∀ i j, i ≠ j → ∀ z ∈ cs.getD i [], ∀ u ∈ cs.getD j [], z.1 ≠ u.1 := by
  rw [List.pairwise_flatten] at h
  refine ⟨fun i => ?_, fun i j hne z hz u hu => ?_⟩
  · by_cases hi : i < cs.length
    · exact h.1 _ (mem_getD hi)
    · rw [getD_out hi]; exact List.Pairwise.nil
  · by_cases hi : i < cs.length
    · by_cases hj : j < cs.length
      · have hp := List.pairwise_iff_getElem.1 h.2
        rw [List.getD_eq_getElem?_getD, List.getElem?_eq_getElem hi] at hz
        rw [List.getD_eq_getElem?_getD, List.getElem?_eq_getElem hj] at hu
        rcases Nat.lt_or_gt_of_ne hne with l | l
        · exact hp i j hi hj l z hz u hu
        · exact Ne.symm (hp j i hj hi l u hu z hz)
      · rw [getD_out hj] at hu; simp at hu
    · rw [getD_out hi] at hz; simp at hz
theorem OwnE.start {cs : List Objs} (hs : SatL L cs) (hh : Has cs.flatten w) : OwnE (ids cs.flatten) w L w := by
  have ha := flat_apart hh.nd
  have hl := satL_at hs
  have hm : ∀ i, ∀ z ∈ cs.getD i [], z ∈ cs.flatten := fun i z hz => by
    by_cases hi : i < cs.length
    · exact List.mem_flatten.2 ⟨_, mem_getD hi, hz⟩
    · rw [getD_out hi] at hz; simp at hz
  exact ⟨fun i => cs.getD i [], fun p hp x hx => satL_get hs hx, fun p hp hx => by rw [List.getElem?_eq_none_iff] at hx; omega, fun p _ z hz => hh.obj z (hm p z hz), fun p _ => ha.1 p, fun p q _ _ hne => ha.2 p q hne,
    fun p _ z hz => .inl (List.mem_map.2 ⟨z, hm p z hz, rfl⟩), rfl, rfl, rfl, Nat.le_refl _, fun _ _ _ => rfl⟩
theorem OwnE.cast (h : OwnE R base L W) (e : L = L') : OwnE R base L' W := by rwa [e] at h
/-- Entries put together, taken for weaker ones, in another order. -/
def SatG : List Ents → Ents → Prop
  | [], [] => True
  | N :: Ns, x :: xs => (∀ ds, SatL N ds → x.sat ds.flatten) ∧ SatG Ns xs
  | _, _ => False
theorem satG_len : ∀ {Ns : List Ents} {L : Ents}, SatG Ns L → Ns.length = L.length
  | [], [], _ => rfl
  | _ :: _, _ :: _, h => by rw [List.length_cons, List.length_cons, satG_len h.2]
  | [], _ :: _, h => h.elim
  | _ :: _, [], h => h.elim
theorem satG_get : ∀ {Ns : List Ents} {L : Ents}, SatG Ns L → ∀ {i : Nat} {x : Ent}, L[i]? = some x → ∃ N, Ns[i]? = some N ∧ ∀ ds, SatL N ds → x.sat ds.flatten
  | N :: Ns, y :: L, h, 0, x, hx => by simp only [List.getElem?_cons_zero, Option.some.injEq] at hx; subst hx; exact ⟨N, rfl, h.1⟩
  | N :: Ns, y :: L, h, i + 1, x, hx => by
    obtain ⟨M, h1, h2⟩ := satG_get h.2 (i := i) (x := x) (by simpa using hx)
    exact ⟨M, by simpa using h1, h2⟩
  | [], [], _, i, x, hx => by simp at hx
  | [], _ :: _, h, _, _, _ => h.elim
  | _ :: _, [], h, _, _, _ => h.elim
theorem satG_one (x : Ent) : ∀ ds, SatL [x] ds → x.sat ds.flatten := fun ds h => by
  obtain ⟨d, es, rfl, h1, h2⟩ := satL_cons h
  rw [satL_nil h2]
  simpa using h1
theorem satG_same : ∀ L : Ents, SatG (L.map fun x => [x]) L
  | [] => trivial
  | x :: L => ⟨satG_one x, satG_same L⟩
theorem nodup_flat {gs : List (List Nat)} (h : gs.flatten.Nodup) {i j a b p : Nat} {g g' : List Nat} (hi : gs[i]? = some g) (hj : gs[j]? = some g') (ha : g[a]? = some p) (hb : g'[b]? = some p) : i = j ∧ a = b := by
  unfold List.Nodup at h
  rw [List.pairwise_flatten] at h
  by_cases e : i = j
  · subst e
    rw [hi] at hj
    cases hj
    refine ⟨rfl, ?_⟩
    have hp := List.pairwise_iff_getElem.1 (h.1 g (List.mem_of_getElem? hi))
    obtain ⟨ha1, ha2⟩ := List.getElem?_eq_some_iff.1 ha
    obtain ⟨hb1, hb2⟩ := List.getElem?_eq_some_iff.1 hb
    apply Classical.byContradiction
    intro hne
    rcases Nat.lt_or_gt_of_ne hne with l | l
    · exact hp a b ha1 hb1 l (ha2.trans hb2.symm)
    · exact hp b a hb1 ha1 l (hb2.trans ha2.symm)
  · exfalso
    have hp := List.pairwise_iff_getElem.1 h.2
    obtain ⟨hi1, hi2⟩ := List.getElem?_eq_some_iff.1 hi
    obtain ⟨hj1, hj2⟩ := List.getElem?_eq_some_iff.1 hj
    have m1 := List.mem_of_getElem? ha
    have m2 := List.mem_of_getElem? hb
    rw [← hi2] at m1
    rw [← hj2] at m2
    rcases Nat.lt_or_gt_of_ne e with l | l
    · exact hp i j hi1 hj1 l p m1 p m2 rfl
    · exact hp j i hj1 hi1 l p m2 p m1 rfl
theorem OwnE.re (h : OwnE R base L W) (gs : List (List Nat)) {Ns : List Ents} (he : (nodupB gs.flatten, gs.map fun g => g.map fun p => L[p]?) = (true, Ns.map fun N => N.map some)) (hs : SatG Ns L') : OwnE R base L' W := by
  obtain ⟨c, hO⟩ := h
  have hn := nodupB_spec (congrArg (·.1) he)
  have hN := congrArg (·.2) he
  simp only at hN
  have hlen : gs.length = L'.length := by
    have h1 := congrArg List.length hN
    rw [List.length_map, List.length_map] at h1
    exact h1.trans (satG_len hs)
  have gi : ∀ i, i < L'.length → ∃ g N, gs[i]? = some g ∧ Ns[i]? = some N ∧ g.map (fun p => L[p]?) = N.map some := by
    intro i hi
    have h1 := congrArg (fun z => z[i]?) hN
    simp only [List.getElem?_map] at h1
    rw [List.getElem?_eq_getElem (by omega : i < gs.length)] at h1
    cases hq : Ns[i]? with
    | none => rw [hq] at h1; simp at h1
    | some N => rw [hq] at h1; exact ⟨gs[i], N, List.getElem?_eq_getElem (by omega), rfl, by simpa using h1⟩
  have inL : ∀ {g : List Nat} {N : Ents}, g.map (fun p => L[p]?) = N.map some → ∀ p ∈ g, p < L.length := by
    intro g N e p hp
    have : L[p]? ∈ N.map some := by rw [← e]; exact List.mem_map.2 ⟨p, hp, rfl⟩
    obtain ⟨x, _, hx⟩ := List.mem_map.1 this
    exact (List.getElem?_eq_some_iff.1 hx.symm).1
  have cG : ∀ i g, gs[i]? = some g → (gs.getD i []) = g := fun i g hg => by rw [List.getD_eq_getElem?_getD, hg]; rfl
  refine ⟨fun i => (gs.getD i []).flatMap c, ?_, ?_, ?_, ?_, ?_, ?_, hO.os, hO.tape, hO.output, hO.size, hO.far⟩
  · intro i hi x hx
    obtain ⟨g, N, h1, h2, h3⟩ := gi i hi
    obtain ⟨N', h4, h5⟩ := satG_get hs hx
    rw [h2] at h4
    cases h4
    rw [cG i g h1]
    have hS : SatL N (g.map c) := by
      refine satL_of (by have := congrArg List.length h3; simpa using this) fun j y hy => ?_
      have h6 := congrArg (fun z => z[j]?) h3
      simp only [List.getElem?_map, hy, Option.map_some] at h6
      cases hg : g[j]? with
      | none => rw [hg] at h6; simp at h6
      | some p =>
        rw [hg] at h6
        rw [List.getD_eq_getElem?_getD, hg]
        have h7 : L[p]? = some y := by simpa using h6
        exact hO.sat p (List.getElem?_eq_some_iff.1 h7).1 y h7
    have := h5 _ hS
    rwa [← List.flatMap_def] at this
  · intro i hi hx
    rw [List.getElem?_eq_none_iff] at hx
    omega
  · intro i hi z hz
    obtain ⟨g, N, h1, h2, h3⟩ := gi i hi
    rw [cG i g h1] at hz
    obtain ⟨p, hp, hz⟩ := List.mem_flatMap.1 hz
    exact hO.obj p (inL h3 p hp) z hz
  · intro i hi
    obtain ⟨g, N, h1, h2, h3⟩ := gi i hi
    rw [cG i g h1, List.pairwise_flatMap]
    refine ⟨fun p hp => hO.inn p (inL h3 p hp), ?_⟩
    rw [List.pairwise_iff_getElem]
    intro a b ha hb hab z hz u hu
    refine hO.nd _ _ (inL h3 _ (List.getElem_mem ha)) (inL h3 _ (List.getElem_mem hb)) (fun e => ?_) z hz u hu
    have := (nodup_flat hn h1 h1 (List.getElem?_eq_getElem ha) (by rw [List.getElem?_eq_getElem hb, e])).2
    omega
  · intro i j hi hj hne z hz u hu
    obtain ⟨g, N, h1, h2, h3⟩ := gi i hi
    obtain ⟨g', N', k1, k2, k3⟩ := gi j hj
    rw [cG i g h1] at hz
    rw [cG j g' k1] at hu
    obtain ⟨p, hp, hz⟩ := List.mem_flatMap.1 hz
    obtain ⟨q, hq, hu⟩ := List.mem_flatMap.1 hu
    refine hO.nd p q (inL h3 p hp) (inL k3 q hq) (fun e => ?_) z hz u hu
    subst e
    obtain ⟨a, ha1, ha2⟩ := List.getElem_of_mem hp
    obtain ⟨b, hb1, hb2⟩ := List.getElem_of_mem hq
    exact hne (nodup_flat hn h1 k1 (by rw [List.getElem?_eq_getElem ha1, ha2]) (by rw [List.getElem?_eq_getElem hb1, hb2])).1
  · intro i hi z hz
    obtain ⟨g, N, h1, h2, h3⟩ := gi i hi
    rw [cG i g h1] at hz
    obtain ⟨p, hp, hz⟩ := List.mem_flatMap.1 hz
    exact hO.lo p (inL h3 p hp) z hz
theorem OwnE.pick (h : OwnE R base L W) (ps : List Nat) (N : Ents) (he : (nodupB (ps.map fun p => [p]).flatten, (ps.map fun p => [p]).map fun g => g.map fun p => L[p]?) = (true, (N.map fun x => [x]).map fun N => N.map some) := by kernel_rfl) : OwnE R base N W :=
  h.re _ he (satG_same N)
/-- A pack, opened. -/
theorem OwnE.open (h : OwnE R base L W) (k : Nat) {Q : Objs → Prop} (hk : L[k]? = some (.p Q)) : ∃ bs, Q bs ∧ OwnE R base (L.set k (.c bs)) W := by
  obtain ⟨c, hO⟩ := h
  have hlt := (List.getElem?_eq_some_iff.1 hk).1
  refine ⟨c k, hO.sat k hlt _ hk, c, ?_⟩
  rw [List.length_set]
  refine ⟨fun p hp x hx => ?_, fun p hp hx => ?_, hO.obj, hO.inn, hO.nd, hO.lo, hO.os, hO.tape, hO.output, hO.size, hO.far⟩
  · rw [List.getElem?_set] at hx
    by_cases e : k = p
    · subst e
      rw [if_pos rfl, if_pos hlt] at hx
      cases hx
      rfl
    · rw [if_neg e] at hx
      exact hO.sat p hp x hx
  · rw [List.getElem?_eq_none_iff, List.length_set] at hx
    omega
/-- Blocks told together, told apart. -/
theorem OwnE.split (h : OwnE R base L W) (k : Nat) (bss : List Objs) (hk : L[k]? = some (.c bss.flatten)) : OwnE R base (L.set k (.c []) ++ bss.map .c) W := by
  obtain ⟨c, hO⟩ := h
  have hlt := (List.getElem?_eq_some_iff.1 hk).1
  have hck : c k = bss.flatten := hO.sat k hlt _ hk
  have hin := hO.inn k hlt
  rw [hck] at hin
  have ha := flat_apart hin
  have hm : ∀ i, ∀ z ∈ bss.getD i [], z ∈ c k := fun i z hz => by
    rw [hck]
    by_cases hi : i < bss.length
    · exact List.mem_flatten.2 ⟨_, mem_getD hi, hz⟩
    · rw [getD_out hi] at hz; simp at hz
  obtain ⟨c', hc'⟩ : ∃ c' : Cnc, c' = fun p => if p = k then [] else if p < L.length then c p else bss.getD (p - L.length) [] := ⟨_, rfl⟩
  have e0 : c' k = [] := by rw [hc']; exact if_pos rfl
  have e1 : ∀ p, p ≠ k → p < L.length → c' p = c p := fun p h1 h2 => by rw [hc']; simp only; rw [if_neg h1, if_pos h2]
  have e2 : ∀ i, c' (L.length + i) = bss.getD i [] := fun i => by rw [hc']; simp only; rw [if_neg (by omega), if_neg (by omega), Nat.add_sub_cancel_left]
  have cas : ∀ p, p = k ∨ (p ≠ k ∧ p < L.length) ∨ ∃ i, p = L.length + i := fun p => by
    by_cases h1 : p = k
    · exact .inl h1
    · by_cases h2 : p < L.length
      · exact .inr (.inl ⟨h1, h2⟩)
      · exact .inr (.inr ⟨p - L.length, by omega⟩)
  have gl : ∀ p, p ≠ k → p < L.length → (L.set k (.c []) ++ bss.map .c)[p]? = L[p]? := fun p h1 h2 => by
    rw [List.getElem?_append_left (by rw [List.length_set]; exact h2), List.getElem?_set, if_neg (Ne.symm h1)]
  have sub : ∀ p z, z ∈ c' p → ∃ q, q < L.length ∧ z ∈ c q ∧ (q = k ∨ q = p) := fun p z hz => by
    rcases cas p with rfl | ⟨h1, h2⟩ | ⟨i, rfl⟩
    · rw [e0] at hz; simp at hz
    · rw [e1 p h1 h2] at hz; exact ⟨p, h2, hz, .inr rfl⟩
    · rw [e2] at hz; exact ⟨k, hlt, hm i z hz, .inl rfl⟩
  refine ⟨c', fun p hp x hx => ?_, fun p hp hx => ?_, fun p hp z hz => ?_, fun p hp => ?_, fun p q hp hq hne z hz u hu => ?_, fun p hp z hz => ?_, hO.os, hO.tape, hO.output, hO.size, hO.far⟩
  · rcases cas p with rfl | ⟨h1, h2⟩ | ⟨i, rfl⟩
    · rw [List.getElem?_append_left (by rw [List.length_set]; exact hlt), List.getElem?_set, if_pos rfl, if_pos hlt] at hx
      cases hx
      exact e0
    · rw [gl p h1 h2] at hx
      rw [e1 p h1 h2]
      exact hO.sat p h2 x hx
    · rw [List.getElem?_append_right (by rw [List.length_set]; omega), List.length_set, Nat.add_sub_cancel_left, List.getElem?_map] at hx
      cases hq : bss[i]? with
      | none => rw [hq] at hx; cases hx
      | some b =>
        rw [hq] at hx
        cases hx
        rw [e2, List.getD_eq_getElem?_getD, hq]
        rfl
  · rw [List.getElem?_eq_none_iff] at hx
    omega
  · obtain ⟨q, hq, hz, _⟩ := sub p z hz
    exact hO.obj q hq z hz
  · rcases cas p with rfl | ⟨h1, h2⟩ | ⟨i, rfl⟩
    · rw [e0]; exact List.Pairwise.nil
    · rw [e1 p h1 h2]; exact hO.inn p h2
    · rw [e2]; exact ha.1 i
  · rcases cas p with rfl | ⟨h1, h2⟩ | ⟨i, rfl⟩
    · rw [e0] at hz; simp at hz
    · rw [e1 p h1 h2] at hz
      rcases cas q with rfl | ⟨h3, h4⟩ | ⟨j, rfl⟩
      · rw [e0] at hu; simp at hu
      · rw [e1 q h3 h4] at hu; exact hO.nd p q h2 h4 hne z hz u hu
      · rw [e2] at hu; exact hO.nd p k h2 hlt h1 z hz u (hm j u hu)
    · rw [e2] at hz
      rcases cas q with rfl | ⟨h3, h4⟩ | ⟨j, rfl⟩
      · rw [e0] at hu; simp at hu
      · rw [e1 q h3 h4] at hu; exact hO.nd k q hlt h4 (Ne.symm h3) z (hm i z hz) u hu
      · rw [e2] at hu; exact ha.2 i j (by omega) z hz u hu
  · obtain ⟨q, hq, hz, _⟩ := sub p z hz
    exact hO.lo q hq z hz
/-- A call's end. -/
theorem OwnE.fin {rd : Ents} {cs : List Objs} (hs : SatL rd cs) (hh : Has cs.flatten w) (h : OwnE (ids cs.flatten) w L W') (O : List Nat) (N : Ents) (ps : List Nat) (ks : List (Nat × Nat))
    (he : (nodupB (ps ++ ks.map (·.2)), ps.map (fun p => L[p]?), ks.map (fun x => L[x.2]?), (List.range rd.length).all fun i => O.contains i || ks.any fun x => x.1 == i) = (true, N.map some, ks.map (fun x => some (.c (cs.getD x.1 []))), true)) :
    ∃ ds, SatL N ds ∧ Step (O.flatMap fun i => ids (cs.getD i [])) ds.flatten w W' := by
  obtain ⟨c, hO⟩ := h
  simp only [Prod.mk.injEq] at he
  obtain ⟨h1, h2, h3, h4⟩ := he
  have hn := nodupB_spec h1
  have inL : ∀ p ∈ ps, p < L.length := fun p hp => by
    have : L[p]? ∈ N.map some := by rw [← h2]; exact List.mem_map.2 ⟨p, hp, rfl⟩
    obtain ⟨x, _, hx⟩ := List.mem_map.1 this
    exact (List.getElem?_eq_some_iff.1 hx.symm).1
  have kept : ∀ i, i < rd.length → i ∉ O → ∃ k, k < L.length ∧ k ∉ ps ∧ c k = cs.getD i [] := by
    intro i hi hn'
    have h5 := List.all_eq_true.1 h4 i (List.mem_range.2 hi)
    simp only [Bool.or_eq_true, List.any_eq_true, beq_iff_eq] at h5
    rcases h5 with h5 | ⟨x, hx, rfl⟩
    · exact absurd (by simpa using h5) hn'
    · obtain ⟨j, hj, hx'⟩ := List.getElem_of_mem hx
      have h6 := congrArg (fun z => z[j]?) h3
      simp only [List.getElem?_map, List.getElem?_eq_getElem hj, Option.map_some, hx', Option.some.injEq] at h6
      have hlt := (List.getElem?_eq_some_iff.1 h6).1
      refine ⟨x.2, hlt, fun hp => ?_, hO.sat x.2 hlt _ h6⟩
      rw [List.nodup_append] at hn
      exact hn.2.2 x.2 hp x.2 (List.mem_map.2 ⟨x, hx, rfl⟩) rfl
  have inR : ∀ b, b ∈ ids cs.flatten → ∃ i, i < cs.length ∧ ∃ z ∈ cs.getD i [], z.1 = b := by
    intro b hb
    obtain ⟨z, hz, e⟩ := List.mem_map.1 hb
    obtain ⟨d, hd, hz⟩ := List.mem_flatten.1 hz
    obtain ⟨i, hi, e2⟩ := List.getElem_of_mem hd
    exact ⟨i, hi, z, by rw [List.getD_eq_getElem?_getD, List.getElem?_eq_getElem hi, e2]; exact hz, e⟩
  have hl := satL_at hs
  refine ⟨ps.map c, satL_of (by have := congrArg List.length h2; simpa using this) fun j y hy => ?_, hO.os, hO.tape, hO.output, hO.size, fun z hz => ?_, fun z hz => ?_, ?_, fun b hb hnO => ?_⟩
  · have h6 := congrArg (fun z => z[j]?) h2
    simp only [List.getElem?_map, hy, Option.map_some] at h6
    cases hg : ps[j]? with
    | none => rw [hg] at h6; simp at h6
    | some p =>
      rw [hg] at h6
      rw [List.getD_eq_getElem?_getD, hg]
      have h7 : L[p]? = some y := by simpa using h6
      exact hO.sat p (List.getElem?_eq_some_iff.1 h7).1 y h7
  · rw [← List.flatMap_def] at hz
    obtain ⟨p, hp, hz⟩ := List.mem_flatMap.1 hz
    exact hO.obj p (inL p hp) z hz
  · rw [← List.flatMap_def] at hz
    obtain ⟨p, hp, hz⟩ := List.mem_flatMap.1 hz
    rcases hO.lo p (inL p hp) z hz with h5 | h5
    · obtain ⟨i, hi, u, hu, e⟩ := inR _ h5
      by_cases hiO : i ∈ O
      · exact .inl (List.mem_flatMap.2 ⟨i, hiO, List.mem_map.2 ⟨u, hu, e⟩⟩)
      · obtain ⟨k, hk, hkp, hck⟩ := kept i (by omega) hiO
        rw [← hck] at hu
        exact absurd e.symm (hO.nd p k (inL p hp) hk (fun e => hkp (e ▸ hp)) z hz u hu)
    · exact .inr h5
  · rw [← List.flatMap_def, List.pairwise_flatMap]
    refine ⟨fun p hp => hO.inn p (inL p hp), ?_⟩
    rw [List.pairwise_iff_getElem]
    intro i j hi hj hij z hz u hu
    refine hO.nd _ _ (inL _ (List.getElem_mem hi)) (inL _ (List.getElem_mem hj)) (fun e => ?_) z hz u hu
    have hp : ps.Nodup := (List.nodup_append.1 hn).1
    have := (List.pairwise_iff_getElem.1 hp) i j hi hj hij
    exact this e
  · by_cases hbR : b ∈ ids cs.flatten
    · obtain ⟨i, hi, z, hz, e⟩ := inR b hbR
      have hiO : i ∉ O := fun hm => hnO (List.mem_flatMap.2 ⟨i, hm, List.mem_map.2 ⟨z, hz, e⟩⟩)
      obtain ⟨k, hk, _, hck⟩ := kept i (by omega) hiO
      have h5 := hO.obj k hk z (by rw [hck]; exact hz)
      have h6 := hh.obj z (List.mem_flatten.2 ⟨_, mem_getD hi, hz⟩)
      rw [← e, h5, h6]
    · exact hO.far b hb hbR
end
theorem OwnE.get1 {R : List Nat} {base W : World} {L : Ents} (h : OwnE R base L W) {k g : Nat} {x : Obj} (hk : L[k]? = some (.c [(g, x)])) : W.heap[g]? = some x := by
  obtain ⟨c, hO⟩ := h
  have hlt := (List.getElem?_eq_some_iff.1 hk).1
  have hc : c k = [(g, x)] := hO.sat k hlt _ hk
  exact hO.obj k hlt (g, x) (by rw [hc]; exact List.mem_singleton.2 rfl)

/-- Results: a slot's; a cell's; a struct's; a row's. -/
inductive RV (P : Program) : Type
  | t (v : Value)
  | c (v : Value) (k : Nat)
  | s (l : List Value) (k : Nat)
def RV.val {P : Program} : RV P → Value
  | t v => v
  | c v _ => v
  | s l _ => .agg l.toArray
section
variable {P : Program} {L : Ents} {tmps : Array Value}
def resE (P : Program) (L : Ents) (tmps : Array Value) : List ResultVar → List (RV P) → List Eqn
  | [], [] => []
  | .tmp i :: rs, .t v :: vs => sE (tmps.getD i undef) v :: resE P L tmps rs vs
  | .cell p T :: rs, .c v k :: vs => (match L[k]? with
    | some (.c [(g, .cells cs _ (0, 0))]) => [sE (tmps.getD p undef) (ptrV g 0), sE cs[0]? (some v), sE (fun w => (isAgg T).run P w) (fun w => .ok false w)]
    | _ => [sB false]) ++ resE P L tmps rs vs
  | .cell p T :: rs, .s l k :: vs => (match L[k]? with
    | some (.c [(g, .cells cs _ (0, 0))]) => [sE (tmps.getD p undef) (ptrV g 0), sE ((cs.toList.drop 0).take l.length) l, sB (aggB P T), sE ((P.info? T).map (·.size)) (some l.length)]
    | _ => [sB false]) ++ resE P L tmps rs vs
  | _, _ => [sB false]
def outV : List (RV P) → Value
  | [v] => v.val
  | vs => .tuple (vs.map RV.val).toArray
def resF (tmps : Array Value) : ResultVar → Sem Value
  | .tmp t => pure (tmps.getD t undef)
  | .cell a t => do loadVar t (← asAddr (tmps.getD a undef))
theorem run_resF {p g : Nat} {T : TypeId} {v : Value} {W : World} (h : tmps.getD p undef = ptrV g 0) (hr : (loadVar T ⟨g, 0, none⟩).run P W = .ok v W) : (resF tmps (.cell p T)).run P W = .ok v W := by
  have h' : tmps[p]?.getD undef = .pointer (some ⟨g, 0, none⟩) := by simpa [ptrV] using h
  simp [resF, h', asAddr, hr]
theorem resF_all {R : List Nat} {base W : World} (hO : OwnE R base L W) : ∀ (rs : List ResultVar) (vs : List (RV P)), (∀ e ∈ resE P L tmps rs vs, e.2.1 = e.2.2) → (rs.mapM (resF tmps)).run P W = .ok (vs.map RV.val) W := by
  intro rs
  induction rs with
  | nil =>
    intro vs he
    cases vs with
    | nil => simp
    | cons v vs => exact (sB_false (by simpa [resE] using he)).elim
  | cons x rs ih =>
    intro vs he
    cases vs with
    | nil => exact (sB_false (by simpa [resE] using he)).elim
    | cons v vs =>
      have tail : ∀ {w : Value}, (resF tmps x).run P W = .ok w W → v.val = w → (∀ e ∈ resE P L tmps rs vs, e.2.1 = e.2.2) → ((x :: rs).mapM (resF tmps)).run P W = .ok ((v :: vs).map RV.val) W := by
        intro w h1 h2 h3
        rw [List.mapM_cons]
        simp only [Sem.run_bind, h1, ih vs h3, Result.andThen_ok, Sem.run_pure, List.map_cons, h2]
      cases x with
      | tmp i =>
        cases v with
        | t v =>
          simp only [resE, List.mem_cons, forall_eq_or_imp, sE] at he
          exact tail (w := v) (by simp only [resF, Sem.run_pure]; rw [he.1]) rfl he.2
        | _ => exact (sB_false (by simpa only [resE] using he)).elim
      | cell p T =>
        cases v with
        | t v => exact (sB_false (by simpa only [resE] using he)).elim
        | c v k =>
          simp only [resE] at he
          split at he
          · rename_i g cs ty hat
            simp only [List.mem_append, List.mem_cons, List.not_mem_nil, or_false, or_imp, forall_and, forall_eq, sE] at he
            obtain ⟨⟨h1, h2, h3⟩, h4⟩ := he
            have hb : Blk W g ty cs := hO.get1 hat
            exact tail (run_resF h1 (run_loadVar_cell (congrFun h3 W) ((hb.cell 0).trans h2))) rfl h4
          · exact (sB_false fun e he' => he e (List.mem_append_left _ he')).elim
        | s l k =>
          simp only [resE] at he
          split at he
          · rename_i g cs ty hat
            simp only [List.mem_append, List.mem_cons, List.not_mem_nil, or_false, or_imp, forall_and, forall_eq, sE, sB] at he
            obtain ⟨⟨h1, h2, h3, h5⟩, h4⟩ := he
            exact tail (run_resF h1 (run_ls (hO.get1 hat) h2 h3 h5)) rfl h4
          · exact (sB_false fun e he' => he e (List.mem_append_left _ he')).elim
theorem resS {R : List Nat} {base W : World} {fn : Func} (hO : OwnE R base L W) (vs : List (RV P)) (he : (resE P L tmps fn.results.toList vs).map Eqn.lhs = (resE P L tmps fn.results.toList vs).map Eqn.rhs) : (results fn tmps).run P W = .ok (outV vs) W := by
  have h := resF_all hO _ _ (Eqn.all he)
  have h2 : (fn.results.mapM (resF tmps)).run P W = .ok (vs.map RV.val).toArray W := by
    rw [Array.mapM_eq_mapM_toList, map_eq_pure_bind, Sem.run_bind, h]
    simp only [Result.andThen_ok, Sem.run_pure]
  unfold results
  show Sem.run P (bind (fn.results.mapM (resF tmps)) _) W = _
  rw [Sem.run_bind, h2]
  simp only [Result.andThen_ok, Sem.run_pure]
  cases vs with
  | nil => rfl
  | cons v vs =>
    cases vs with
    | nil => rfl
    | cons u vs => rw [dif_neg (by simp)]; rfl
end
/-- A call's end: what lies where the results lie, and what has become of the memory. -/
theorem leavesE {F : Fence} {n : Nat} {P : Program} {fn : Func} {tmps : Array Value} {R : Ending → World → Prop} {R1 : List Nat} {base : World} {L : Ents} {W : World} (OW : Hid (OwnE R1 base L W)) (vs : List (RV P)) (he : (resE P L tmps fn.results.toList vs).map Eqn.lhs = (resE P L tmps fn.results.toList vs).map Eqn.rhs)
    (h : OwnE R1 base L W → R (.returned (outV vs)) W) : LeavesInM F n P fn tmps R [] .returning W := ⟨_, resS OW.out vs he, h OW.out⟩
end Go.Proofs.Ytdglhppcfdpcaaa.E
namespace Go.Proofs.Ytdglhppcfdpcaaa.E
open Go Go.RowKit Go.Shelf

/-- Blocks, one by one. -/
structure OwnS (R : List Nat) (base : World) (L : Objs) (W : World) : Prop where
  obj : ∀ x ∈ L, W.heap[x.1]? = some x.2
  nd : L.Pairwise (fun x y => x.1 ≠ y.1)
  lo : ∀ x ∈ L, x.1 ∈ R ∨ base.heap.size ≤ x.1
  os : W.os = base.os
  tape : W.tape = base.tape
  output : W.output = base.output
  size : base.heap.size ≤ W.heap.size
  far : ∀ b, b < base.heap.size → b ∉ R → W.heap[b]? = base.heap[b]?
theorem Own.s {B : Nat} {base W : World} {L : Objs} (h : Own B base L W) (hB : base.heap.size ≤ B) : OwnS [] base L W := ⟨h.obj, h.nd, fun x hx => .inr (Nat.le_trans hB (h.lo x hx)), h.os, h.tape, h.output, h.size, fun b hb _ => h.far b hb fun x hx e => by have := h.lo x hx; omega⟩
theorem OwnS.own {B : Nat} {base W : World} {L : Objs} (h : OwnS [] base L W) (hB : B ≤ base.heap.size) : Own B base L W := ⟨h.obj, h.nd, fun x hx => (h.lo x hx).elim (fun h => by simp at h) (fun h => Nat.le_trans hB h), h.os, h.tape, h.output, h.size, fun b hb _ => h.far b hb (by simp)⟩
section
variable {R R0 : List Nat} {base w W W' : World} {L L' : Objs}
theorem OwnS.start {R0 : Objs} (H : Has R0 w) : OwnS (R0.map (·.1)) w R0 w :=
  ⟨H.obj, H.nd, fun x hx => .inl (List.mem_map.2 ⟨x, hx, rfl⟩), rfl, rfl, rfl, Nat.le_refl _, fun _ _ _ => rfl⟩
theorem OwnS.lt (h : OwnS R base L W) {x : Nat × Obj} (hx : x ∈ L) : x.1 < W.heap.size := (Array.getElem?_eq_some_iff.1 (h.obj x hx)).1
theorem OwnS.sub (h : OwnS R base L W) (hs : L'.Sublist L) : OwnS R base L' W := ⟨fun x hx => h.obj x (hs.subset hx), h.nd.sublist hs, fun x hx => h.lo x (hs.subset hx), h.os, h.tape, h.output, h.size, h.far⟩
theorem OwnS.cast (h : OwnS R base L W) (e : L = L') : OwnS R base L' W := by rwa [e] at h
end
section
variable {R R0 : List Nat} {base w W W' W1 : World} {L L' K : Objs} {Ds : List Nat}
theorem OwnS.turn {O : Nat → Prop} (h : OwnS R base L W) (t : Turn (fun b => ¬ O b) W W') (hL : ∀ x ∈ L, O x.1) (hf : ∀ b, b < base.heap.size → b ∉ R → O b) : OwnS R base L W' :=
  ⟨fun x hx => t.heap (fun e => e (hL x hx)) (h.obj x hx), h.nd, h.lo, t.os.trans h.os, t.tape.trans h.tape, t.output.trans h.output, Nat.le_trans h.size t.size,
    fun b hb hn => (t.same b (Nat.lt_of_lt_of_le hb h.size) (fun e => e (hf b hb hn))).trans (h.far b hb hn)⟩
theorem OwnS.join (h : OwnS R base L W) (k : OwnS (L.map (·.1)) W L' W') : OwnS R base L' W' :=
  ⟨k.obj, k.nd, fun x hx => (k.lo x hx).elim (fun hm => by obtain ⟨y, hy, e⟩ := List.mem_map.1 hm; rw [← e]; exact h.lo y hy) (fun hm => .inr (Nat.le_trans h.size hm)), k.os.trans h.os, k.tape.trans h.tape, k.output.trans h.output, Nat.le_trans h.size k.size,
    fun b hb hn => (k.far b (Nat.lt_of_lt_of_le hb h.size) fun hm => by
      obtain ⟨y, hy, e⟩ := List.mem_map.1 hm
      rcases h.lo y hy with h1 | h1
      · exact hn (by rw [← e]; exact h1)
      · omega).trans (h.far b hb hn)⟩
theorem OwnS.has (h : OwnS R base L W) : Has L W := ⟨h.obj, h.nd⟩
theorem OwnS.anew (h : OwnS R base L W) : OwnS (L.map (·.1)) W L W := OwnS.start h.has
/-- What is told of the blocks from here on is told of the call's own, and of its marks. -/
def Clo (R : List Nat) (base : World) (R0 : List Nat) (w : World) (Ds : List Nat) : Prop := ∀ L W, OwnS R base L W → OwnS R0 w (L ++ Ds.map markO) W
theorem Clo.nil (R0 : List Nat) (w : World) : Clo R0 w R0 w [] := fun L W h => by simpa using h
theorem OwnS.seg (h : OwnS R0 w (L ++ Ds.map markO) W) : Clo (L.map (·.1)) W R0 w Ds := by
  intro L' W' k
  have hp := List.pairwise_append.1 h.nd
  have hm : ∀ {D : Nat}, D ∈ Ds → markO D ∈ L ++ Ds.map markO := fun hD => List.mem_append_right _ (List.mem_map_of_mem hD)
  have hnot : ∀ {D : Nat}, D ∈ Ds → D ∉ L.map (·.1) := fun hD hx => by
    obtain ⟨y, hy, e⟩ := List.mem_map.1 hx
    exact hp.2.2 y hy _ (List.mem_map_of_mem hD) e
  refine ⟨fun x hx => ?_, ?_, fun x hx => ?_, k.os.trans h.os, k.tape.trans h.tape, k.output.trans h.output, Nat.le_trans h.size k.size, fun b hb hn => ?_⟩
  · rcases List.mem_append.1 hx with hx | hx
    · exact k.obj x hx
    · obtain ⟨D, hD, rfl⟩ := List.mem_map.1 hx
      exact (k.far D (h.lt (hm hD)) (hnot hD)).trans (h.obj _ (hm hD))
  · refine List.pairwise_append.2 ⟨k.nd, hp.2.1, fun x hx y hy e => ?_⟩
    obtain ⟨D, hD, rfl⟩ := List.mem_map.1 hy
    rcases k.lo x hx with h1 | h1
    · exact hnot hD (by rw [← show x.1 = D from e]; exact h1)
    · have := h.lt (hm hD)
      have e' : x.1 = D := e
      have h2 : (markO D).1 = D := rfl
      omega
  · rcases List.mem_append.1 hx with hx | hx
    · rcases k.lo x hx with h1 | h1
      · obtain ⟨y, hy, e⟩ := List.mem_map.1 h1
        rw [← e]
        exact h.lo y (List.mem_append_left _ hy)
      · exact .inr (Nat.le_trans h.size h1)
    · exact h.lo x (List.mem_append_right _ hx)
  · refine (k.far b (Nat.lt_of_lt_of_le hb h.size) fun hx => ?_).trans (h.far b hb hn)
    obtain ⟨y, hy, e⟩ := List.mem_map.1 hx
    rcases h.lo y (List.mem_append_left _ hy) with h1 | h1
    · exact hn (by rw [← e]; exact h1)
    · omega
theorem Clo.mark {D : Nat} (c : Clo R base R0 w Ds) (h : OwnS R base (L ++ [markO D]) W) : Clo (L.map (·.1)) W R0 w (D :: Ds) := by
  intro L' W' k
  have h1 : OwnS R base (L ++ [D].map markO) W := h
  have h2 := c _ _ (h1.seg L' W' k)
  simpa using h2
theorem OwnS.unmark {D : Nat} {M : Objs} (o : Obj) (h : OwnS R base (L ++ markO D :: M) W) : OwnS R base (L ++ M) (W.putObj D o) := by
  have hp := List.pairwise_append.1 h.nd
  have hpc := List.pairwise_cons.1 hp.2.1
  have hD : markO D ∈ L ++ markO D :: M := by simp
  have hne : ∀ x ∈ L ++ M, x.1 ≠ D := fun x hx => by
    rcases List.mem_append.1 hx with hx | hx
    · exact hp.2.2 x hx (markO D) (by simp)
    · exact Ne.symm (hpc.1 x hx)
  have hin : ∀ x ∈ L ++ M, x ∈ L ++ markO D :: M := fun x hx => by
    rcases List.mem_append.1 hx with hx | hx
    · exact List.mem_append_left _ hx
    · exact List.mem_append_right _ (List.mem_cons_of_mem _ hx)
  refine ⟨fun x hx => (World.putObj_heap_other (hne x hx)).trans (h.obj x (hin x hx)), ?_, fun x hx => h.lo x (hin x hx), h.os, h.tape, h.output, by simpa [World.putObj] using h.size, fun b hb hn => ?_⟩
  · exact List.pairwise_append.2 ⟨hp.1, hpc.2, fun x hx y hy => hp.2.2 x hx y (List.mem_cons_of_mem _ hy)⟩
  · refine (World.putObj_heap_other ?_).trans (h.far b hb hn)
    rintro rfl
    rcases h.lo _ hD with h1 | h1
    · exact hn h1
    · have h2 : (markO b).1 = b := rfl
      omega
end

/-! Entries as blocks. -/
section
variable {R R0 : List Nat} {base w W W' : World} {L L' : Ents} {Ds : List Nat}
theorem OwnE.conc (h : OwnE R base L W) : ∃ cs, SatL L cs ∧ OwnS R base cs.flatten W := by
  obtain ⟨c, hO⟩ := h
  have hm : ∀ {z : Nat × Obj}, z ∈ ((List.range L.length).map c).flatten → ∃ p, p < L.length ∧ z ∈ c p := fun hz => by
    rw [← List.flatMap_def] at hz
    obtain ⟨p, hp, hz⟩ := List.mem_flatMap.1 hz
    exact ⟨p, List.mem_range.1 hp, hz⟩
  refine ⟨(List.range L.length).map c, satL_of (by rw [List.length_range]) fun i x hx => ?_, fun z hz => ?_, ?_, fun z hz => ?_, hO.os, hO.tape, hO.output, hO.size, hO.far⟩
  · have hi := (List.getElem?_eq_some_iff.1 hx).1
    rw [List.getD_eq_getElem?_getD, List.getElem?_range hi]
    exact hO.sat i hi x hx
  · obtain ⟨p, hp, hz⟩ := hm hz
    exact hO.obj p hp z hz
  · rw [← List.flatMap_def, List.pairwise_flatMap]
    refine ⟨fun p hp => hO.inn p (List.mem_range.1 hp), ?_⟩
    exact List.Pairwise.imp_of_mem (fun {a b} ha hb hne z hz u hu => hO.nd a b (List.mem_range.1 ha) (List.mem_range.1 hb) hne z hz u hu) (show (List.range L.length).Pairwise (· ≠ ·) from List.nodup_range)
  · obtain ⟨p, hp, hz⟩ := hm hz
    exact hO.lo p hp z hz
theorem OwnE.ofS {cs : List Objs} (hs : SatL L cs) (h : OwnS R base cs.flatten W) : OwnE R base L W := by
  have ha := flat_apart h.nd
  have hl := satL_at hs
  have hm : ∀ i, ∀ z ∈ cs.getD i [], z ∈ cs.flatten := fun i z hz => by
    by_cases hi : i < cs.length
    · exact List.mem_flatten.2 ⟨_, mem_getD hi, hz⟩
    · rw [getD_out hi] at hz; simp at hz
  exact ⟨fun i => cs.getD i [], fun p hp x hx => satL_get hs hx, fun p hp hx => by rw [List.getElem?_eq_none_iff] at hx; omega, fun p _ z hz => h.obj z (hm p z hz), fun p _ => ha.1 p, fun p q _ _ hne => ha.2 p q hne,
    fun p _ z hz => h.lo z (hm p z hz), h.os, h.tape, h.output, h.size, h.far⟩
abbrev mk (D : Nat) : Ent := .c [markO D]
theorem satL_app : ∀ {L L' : Ents} {cs ds : List Objs}, SatL L cs → SatL L' ds → SatL (L ++ L') (cs ++ ds)
  | [], _, [], _, _, h => h
  | _ :: _, _, _ :: _, _, h, k => ⟨h.1, satL_app h.2 k⟩
  | [], _, _ :: _, _, h, _ => h.elim
  | _ :: _, _, [], _, h, _ => h.elim
theorem satL_split : ∀ {L L' : Ents} {cs : List Objs}, SatL (L ++ L') cs → ∃ ds es, cs = ds ++ es ∧ SatL L ds ∧ SatL L' es
  | [], _, cs, h => ⟨[], cs, rfl, trivial, h⟩
  | x :: L, L', [], h => h.elim
  | x :: L, L', d :: cs, h => by
    obtain ⟨ds, es, e, h1, h2⟩ := satL_split (L := L) h.2
    exact ⟨d :: ds, es, by rw [e]; rfl, ⟨h.1, h1⟩, h2⟩
theorem satL_marks : ∀ Ds : List Nat, SatL (Ds.map mk) (Ds.map fun D => [markO D])
  | [] => trivial
  | _ :: Ds => ⟨rfl, satL_marks Ds⟩
theorem satL_marksE : ∀ {Ds : List Nat} {es : List Objs}, SatL (Ds.map mk) es → es.flatten = Ds.map markO
  | [], [], _ => rfl
  | D :: Ds, e :: es, h => by
    have h1 : e = [markO D] := h.1
    rw [List.flatten_cons, h1, satL_marksE h.2]
    rfl
  | [], _ :: _, h => h.elim
  | _ :: _, [], h => h.elim
theorem OwnE.anew (h : OwnE R base L W) : ∃ R1, OwnE R1 W L W := by
  obtain ⟨cs, hs, hO⟩ := h.conc
  exact ⟨_, OwnE.ofS hs hO.anew⟩
/-- The part ahead of the marks, on its own. -/
theorem OwnE.seg (h : OwnE R0 w (L ++ Ds.map mk) W) : ∃ R1, Hid (Clo R1 W R0 w Ds) ∧ Hid (OwnE R1 W L W) := by
  obtain ⟨cs, hs, hO⟩ := h.conc
  obtain ⟨ds, es, rfl, h1, h2⟩ := satL_split hs
  rw [List.flatten_append, satL_marksE h2] at hO
  exact ⟨_, Lib.hid hO.seg, Lib.hid (OwnE.ofS h1 (OwnS.anew (hO.sub (List.sublist_append_left _ _))))⟩
theorem Clo.markE {D : Nat} (c : Clo R base R0 w Ds) (h : OwnE R base (L ++ [mk D]) W) : ∃ R1, Hid (Clo R1 W R0 w (D :: Ds)) ∧ Hid (OwnE R1 W L W) := by
  obtain ⟨cs, hs, hO⟩ := h.conc
  obtain ⟨ds, es, rfl, h1, h2⟩ := satL_split hs
  rw [List.flatten_append, satL_marksE (Ds := [D]) h2] at hO
  exact ⟨_, Lib.hid (c.mark hO), Lib.hid (OwnE.ofS h1 (OwnS.anew (hO.sub (List.sublist_append_left _ _))))⟩
theorem Clo.whole (c : Clo R base R0 w Ds) (h : OwnE R base L W) : OwnE R0 w (L ++ Ds.map mk) W := by
  obtain ⟨cs, hs, hO⟩ := h.conc
  refine OwnE.ofS (satL_app hs (satL_marks Ds)) ?_
  have e : ((Ds.map fun D => [markO D]) : List Objs).flatten = Ds.map markO := satL_marksE (satL_marks Ds)
  rw [List.flatten_append, e]
  exact c _ _ hO
end
/-- A call's end where marks stand. -/
theorem leavesEM {F : Fence} {n : Nat} {P : Program} {fn : Func} {tmps : Array Value} {Rp : Ending → World → Prop} {R R0 : List Nat} {base w : World} {L : Ents} {W : World} {Ds : List Nat} (OC : Hid (Clo R base R0 w Ds)) (OW : Hid (OwnE R base L W)) (vs : List (RV P)) (he : (resE P L tmps fn.results.toList vs).map Eqn.lhs = (resE P L tmps fn.results.toList vs).map Eqn.rhs)
    (h : ∀ W', OwnE R0 w L W' → Rp (.returned (outV vs)) W') : LeavesInM F n P fn tmps Rp (Ds.map markD) .returning W := by
  obtain ⟨cs, hs, hO⟩ := OW.out.conc
  have key : ∀ (Ds : List Nat) (W : World), OwnS R0 w (cs.flatten ++ Ds.map markO) W → LeavesInM F n P fn tmps Rp (Ds.map markD) .returning W := by
    intro Ds
    induction Ds with
    | nil =>
      intro W hO
      have hO' : OwnE R0 w L W := OwnE.ofS hs (by simpa using hO)
      exact ⟨_, resS hO' vs he, h _ hO'⟩
    | cons D Ds ih =>
      intro W hO
      have hg : W.heap[D]? = some (.deferred (some [])) := hO.obj (markO D) (by simp)
      exact ⟨by simp, .inl ⟨D, _, rfl, run_takeDeferred hg, ih _ (hO.unmark _)⟩⟩
  exact key Ds W (OC.out _ W hO)

/-- K and ¬ O: kept; O: the caller's. -/
structure GrowE (K O O' : Nat → Prop) (W W' : World) : Prop where
  size : W.heap.size ≤ W'.heap.size
  old : ∀ b, b < W.heap.size → O' b → O b
  new : ∀ b, O' b → b < W'.heap.size
  keep : ∀ b, b < W.heap.size → (¬ O b ∨ K b) → W'.heap[b]? = W.heap[b]?
theorem GrowE.trans {K A B C : Nat → Prop} {W W1 W2 : World} (h : GrowE K A B W W1) (k : GrowE K B C W1 W2) : GrowE K A C W W2 := by
  refine ⟨Nat.le_trans h.size k.size, fun b hb hc => h.old b hb (k.old b (Nat.lt_of_lt_of_le hb h.size) hc), k.new, fun b hb hk => ?_⟩
  refine (k.keep b (Nat.lt_of_lt_of_le hb h.size) ?_).trans (h.keep b hb hk)
  rcases hk with hk | hk
  · exact .inl fun hB => hk (h.old b hb hB)
  · exact .inr hk
def IterX {α : Type} (F : Fence) (n : Nat) (P : Program) (g : Nat) (lb : Array Value) (encs : α → Array Value) (xs : List α) (K : Nat → Prop) (St : (Nat → Prop) → World → Prop) : Prop :=
  ∀ (l : Nat) (J Jx : Nat → (Nat → Prop) → World → Prop) (W : World) (O : Nat → Prop), St O W → StayO J → StayO Jx → (∀ b, O b → b < W.heap.size) →
    (∀ i x O1 W1, xs[i]? = some x → J i O1 W1 → W.heap.size ≤ W1.heap.size → YieldAt F (n - 1) P l (encs x) W1 fun e W' => ∃ O', GrowE K O1 O' W1 W' ∧
      ((e = .returned (.bool true) ∧ J (i + 1) O' W') ∨ (e = .returned (.bool false) ∧ Jx (i + 1) O' W'))) →
    J 0 O W →
    CallsIn F n P g (#[.func (.yield l) #[] #[]] ++ lb) W fun e W' => (∃ v, e = .returned v) ∧ ((∃ O', J xs.length O' W') ∨ ∃ i, i < xs.length ∧ ∃ O', Jx (i + 1) O' W')
/-- How a round's body may be left. -/
def roundEndE (K : Nat → Prop) (I : Nat → (Nat → Prop) → World → Prop) (Ix : Code → Nat → (Nat → Prop) → World → Prop) (i : Nat) (O : Nat → Prop) (W : World) : Exit → Act → World → Prop
  | .normal, _, W' => ∃ O', GrowE K O O' W W' ∧ I i O' W'
  | .ret, _, W' => ∃ O', GrowE K O O' W W' ∧ Ix .ret i O' W'
  | .exit id, _, W' => ∃ O', GrowE K O O' W W' ∧ Ix (.exit id) i O' W'
  | .goto t, _, W' => ∃ O', GrowE K O O' W W' ∧ Ix (.goto t) i O' W'
  | .panic _, _, _ => False
  | .outgrown, _, _ => False
theorem iter_lawE {α : Type} {F : Fence} {n : Nat} {P : Program} {g : Operand} {ps : Array Tmp} {assign body : Code} {Q : Exit → Act → World → Prop} {a : Act} {w : World}
    (hro : F.round = none) (h1 : 1 ≤ n) {gf : Nat} {lb : Array Value} (hg : a.eval g = .func (.func gf) #[] lb) (hFg : F.fn gf) (eg : ∀ args w, (callFunc gf args).run P w = .ok (.enter gf args) w)
    {encs : α → Array Value} {xs : List α} {K : Nat → Prop} {St : (Nat → Prop) → World → Prop} (hit : IterX F (n - 1) P gf lb encs xs K St) (O : Nat → Prop)
    (hSt : ∀ W, (∀ b, b < w.heap.size → W.heap[b]? = w.heap[b]?) → ∀ O1 : Nat → Prop, (∀ b, b < w.heap.size → O1 b → O b) → St O1 W) (hO : ∀ b, O b → b < w.heap.size) (hKl : ∀ b, K b → b < w.heap.size) (hps : ∀ x, (encs x).size = ps.size)
    (I : Nat → (Nat → Prop) → World → Prop) (Ix : Code → Nat → (Nat → Prop) → World → Prop) (hI : StayO I) (hIx : ∀ c, StayO (Ix c)) (h0 : I 0 O w)
    (hround : ∀ (l i : Nat) (x : α) (O1 : Nat → Prop) (W : World), xs[i]? = some x → w.heap.size + 2 ≤ W.heap.size → I i O1 W →
      assign.wpIn (F.inRound l) (n - 1 - 1) P (Exit.then (fun a' Wa => ∃ Oa, GrowE K O1 Oa W Wa ∧ ∀ U, Turn (fun b => ¬ Oa b) Wa U → U.heap.size = Wa.heap.size →
        body.wpIn (F.inRound l) (n - 1 - 1) P (roundEndE K I Ix (i + 1) Oa U) a' U) (fun _ _ _ => False)) { tmps := (ps.zip (encs x)).foldl (fun t (p, v) => t.setIfInBounds p v) a.tmps, defers := [] } W)
    (hdone : ∀ (D : Nat) (O1 : Nat → Prop) (W : World), w.heap.size ≤ D → ¬ O1 D → I xs.length O1 W → W.heap[D]? = some (.deferred (some [])) → Q .normal { a with defers := { target := .collected D, args := #[] } :: a.defers } W)
    (hstop : ∀ (D : Nat) (c : Code) (i : Nat) (O1 : Nat → Prop) (W : World), w.heap.size ≤ D → ¬ O1 D → i < xs.length → Ix c (i + 1) O1 W → W.heap[D]? = some (.deferred (some [])) → c.wpIn F n P Q { a with defers := { target := .collected D, args := #[] } :: a.defers } W) :
    (Code.rangeFunc g ps assign body).wpIn F n P Q a w := by
  refine wpIn_rangeFunc ?_
  intro fn hfn
  rw [hro]
  obtain ⟨B, hB⟩ : ∃ B, w.heap.size = B := ⟨_, rfl⟩
  obtain ⟨rec, hrec⟩ : ∃ rec : LoopState → Option Code → Loop, rec = fun st pe => { state := st, pending := pe, fn, tmps := a.tmps, params := ps, assign, body, defers := B } := ⟨_, rfl⟩
  obtain ⟨V, hV⟩ : ∃ V, (w.alloc (.deferred (some []))).alloc (.loop (rec .ready none)) = V := ⟨_, rfl⟩
  have vl : V.heap[B + 1]? = some (.loop (rec .ready none)) := by
    rw [← hV, ← hB]; have := World.alloc_heap_new (w.alloc (.deferred (some []))) (.loop (rec .ready none)); rwa [World.size_alloc] at this
  have vd : V.heap[B]? = some (.deferred (some [])) := by
    rw [← hV, ← hB]; exact (Below.heap_alloc _ _ _ (by simp)).trans (World.alloc_heap_new w _)
  have vo : ∀ b, b < B → V.heap[b]? = w.heap[b]? := by
    intro b hb
    rw [← hV]; exact (Below.heap_alloc _ _ _ (by simp; omega)).trans (Below.heap_alloc _ _ _ (by omega))
  have vI : I 0 O V := by
    rw [← hV]; exact hI 0 _ _ _ (hI 0 _ _ _ h0 (Turn.alloc _ _ _)) (Turn.alloc _ _ _)
  have vs : V.heap.size = B + 2 := by rw [← hV, ← hB]; simp
  refine ⟨B + 1, [{ target := .collected B, args := #[] }], V, { target := .fn (.func gf) lb, args := #[.func (.yield (B + 1)) #[] #[]] }, V, gf,
    #[.func (.yield (B + 1)) #[] #[]] ++ lb, V, ?_, ?_, ?_, ?_, fun _ => h1, ?_⟩
  · rw [← hV, hrec, ← hB]; exact run_enterLoop_outer _ _ _ _ _
  · simp only [resolve, hg]
    simp [go_sem]
  · intro f' hf'; simp [Target.leads] at hf'; subst hf'; exact hFg
  · simp [invoke, go_sem, eg]
  · obtain ⟨up, hup⟩ : ∃ up : (Nat → Prop) → Nat → Prop, up = fun Oc b => Oc b ∨ b = B ∨ b = B + 1 := ⟨_, rfl⟩
    have kept : ∀ {Oc : Nat → Prop} {A C : World} {b : Nat} {o : Obj}, Turn (fun b => ¬ up Oc b) A C → (b = B ∨ b = B + 1) → A.heap[b]? = some o → C.heap[b]? = some o := fun {Oc A C b o} t hb ho =>
      t.heap (fun e => e (by rw [hup]; exact .inr hb)) ho
    have upT : ∀ {Oc : Nat → Prop} {A C : World}, Turn (fun b => ¬ up Oc b) A C → Turn (fun b => ¬ Oc b) A C := fun {Oc A C} t => t.mono fun b hb h => hb (by rw [hup]; exact .inl h)
    refine (hit (B + 1)
      (fun i O1 W => ∃ Oc, O1 = up Oc ∧ (¬ Oc B ∧ ¬ Oc (B + 1)) ∧ I i Oc W ∧ W.heap[B + 1]? = some (.loop (rec .ready none)) ∧ W.heap[B]? = some (.deferred (some [])))
      (fun i O1 W => ∃ Oc, O1 = up Oc ∧ (¬ Oc B ∧ ¬ Oc (B + 1)) ∧ ∃ c, Ix c i Oc W ∧ W.heap[B + 1]? = some (.loop (rec .done (some c))) ∧ W.heap[B]? = some (.deferred (some [])))
      V (up O) (hSt V (by rw [hB]; exact vo) (up O) fun b hb h => by
        rw [hup] at h
        rcases h with h | h | h
        · exact h
        · omega
        · omega)
      (fun i O1 A C hs t => by
        obtain ⟨Oc, rfl, hn, h1, h2, h3⟩ := hs
        exact ⟨Oc, rfl, hn, hI i _ A C h1 (upT t), kept t (.inr rfl) h2, kept t (.inl rfl) h3⟩)
      (fun i O1 A C hs t => by
        obtain ⟨Oc, rfl, hn, c, h1, h2, h3⟩ := hs
        exact ⟨Oc, rfl, hn, c, hIx c i _ A C h1 (upT t), kept t (.inr rfl) h2, kept t (.inl rfl) h3⟩)
      (fun b hb => by
        rw [hup] at hb
        rcases hb with h | h | h
        · have := hO b h; omega
        · omega
        · omega)
      ?_ ⟨O, rfl, ⟨fun h => by have := hO _ h; omega, fun h => by have := hO _ h; omega⟩, vI, vl, vd⟩).mono ?_
    · rintro i x O1 W hx ⟨Oc, rfl, hn, hi, hl, hd⟩ hVW
      have hlt : B + 1 < W.heap.size := (Array.getElem?_eq_some_iff.1 hl).1
      have hy := run_yield (P := P) (args := encs x) hl (by rw [hrec]; exact hps x)
      rw [hrec] at hy
      have hra := hround (B + 1) i x Oc W hx (by omega) hi
      refine ⟨fn, _, assign, body, hy, roundIn_of_wpIn hfn (wpIn_mono hra ?_)⟩
      intro e0 a0 Wa hpa
      cases e0 with
      | normal => ?_
      | ret => exact hpa.elim
      | exit id => exact hpa.elim
      | goto t => exact hpa.elim
      | panic ch => exact hpa.elim
      | outgrown => exact hpa.elim
      obtain ⟨Oa, hga, hbody⟩ := hpa
      have was := hga.size
      have hlW := hl
      have hdW := hd
      have hnW := hn
      have hltW := hlt
      have gW : GrowE K (up Oc) (up Oa) W Wa := by
        refine ⟨hga.size, ?_, ?_, fun b hb h => hga.keep b hb (h.imp (fun h e => h (by rw [hup]; exact .inl e)) id)⟩
        · intro b hb h
          rw [hup] at h ⊢
          exact h.elim (fun h => .inl (hga.old b hb h)) .inr
        · intro b h
          rw [hup] at h
          rcases h with h | h | h
          · exact hga.new b h
          · omega
          · omega
      have hl := (hga.keep (B + 1) hlt (.inl hn.2)).trans hlW
      have hd := (hga.keep B (by omega) (.inl hn.1)).trans hdW
      have hn : ¬ Oa B ∧ ¬ Oa (B + 1) := ⟨fun h => hnW.1 (hga.old _ (by omega) h), fun h => hnW.2 (hga.old _ hlt h)⟩
      have hlt : B + 1 < Wa.heap.size := (Array.getElem?_eq_some_iff.1 hl).1
      refine ⟨_, run_beginRound hl (by rw [hrec]), ?_⟩
      obtain ⟨U, hU⟩ : ∃ U, Wa.putObj (B + 1) (.loop { rec .ready none with state := .busy }) = U := ⟨_, rfl⟩
      have ul : U.heap[B + 1]? = some (.loop { rec .ready none with state := .busy }) := by rw [← hU]; exact World.putObj_heap_same hlt
      have ud : U.heap[B]? = some (.deferred (some [])) := by rw [← hU]; exact (World.putObj_heap_other (by omega)).trans hd
      have us : U.heap.size = Wa.heap.size := by rw [← hU]; simp [World.putObj]
      have uo : ∀ b, b ≠ B + 1 → U.heap[b]? = Wa.heap[b]? := fun b hb => by rw [← hU]; exact World.putObj_heap_other hb
      have uT : Turn (fun b => ¬ Oa b) Wa U := by rw [← hU]; exact Turn.putObj Wa hn.2 _
      rw [hU]
      refine wpIn_mono (hbody U uT us) ?_
      have fin : ∀ (jump : Option Code) (O2 : Nat → Prop) (W3 : World), GrowE K Oa O2 U W3 →
          (Instr.endRound (B + 1) jump).run P W3 = .ok (.bool jump.isNone) (W3.putObj (B + 1) (.loop (rec (if jump.isNone then .ready else .done) jump))) ∧
          (W3.putObj (B + 1) (.loop (rec (if jump.isNone then .ready else .done) jump))).heap[B + 1]? = some (.loop (rec (if jump.isNone then .ready else .done) jump)) ∧
          (W3.putObj (B + 1) (.loop (rec (if jump.isNone then .ready else .done) jump))).heap[B]? = some (.deferred (some [])) ∧
          (¬ O2 B ∧ ¬ O2 (B + 1)) ∧ GrowE K (up Oa) (up O2) Wa (W3.putObj (B + 1) (.loop (rec (if jump.isNone then .ready else .done) jump))) := fun jump O2 W3 hk => by
        have l3 : W3.heap[B + 1]? = some (.loop { rec .ready none with state := .busy }) := (hk.keep (B + 1) (by omega) (.inl hn.2)).trans ul
        have d3 : W3.heap[B]? = some (.deferred (some [])) := (hk.keep B (by omega) (.inl hn.1)).trans ud
        have n3 : ¬ O2 B ∧ ¬ O2 (B + 1) := ⟨fun h => hn.1 (hk.old _ (by omega) h), fun h => hn.2 (hk.old _ (by omega) h)⟩
        have hr := run_endRound (P := P) jump l3
        rw [hrec] at hr ⊢
        rw [hrec] at l3
        have hsz : ∀ o, (W3.putObj (B + 1) o).heap.size = W3.heap.size := fun o => by simp [World.putObj]
        have hks := hk.size
        refine ⟨hr, World.putObj_heap_same (Array.getElem?_eq_some_iff.1 l3).1, (World.putObj_heap_other (by omega)).trans d3, n3, ⟨by rw [hsz]; omega, ?_, ?_, ?_⟩⟩
        · intro b hb h
          rw [hup] at h ⊢
          exact h.elim (fun h => .inl (hk.old b (by omega) h)) .inr
        · intro b h
          rw [hup] at h
          rw [hsz]
          rcases h with h | h | h
          · exact hk.new b h
          · omega
          · omega
        · intro b hb h
          have hne : b ≠ B + 1 := by
            rintro rfl
            rcases h with h | h
            · exact h (by rw [hup]; exact .inr (.inr rfl))
            · have := hKl _ h; omega
          refine (World.putObj_heap_other hne).trans ((hk.keep b (by omega) ?_).trans (uo b hne))
          rcases h with h | h
          · exact .inl fun e => h (by rw [hup]; exact .inl e)
          · exact .inr h
      have jumps : ∀ (c : Code) (O2 : Nat → Prop) (W3 : World), GrowE K Oa O2 U W3 → Ix c (i + 1) O2 W3 → ∃ v w', (Instr.endRound (B + 1) (some c)).run P W3 = .ok v w' ∧ ∃ O', GrowE K (up Oc) O' W w' ∧
          ((Ending.returned v = .returned (.bool true) ∧ ∃ Oc', O' = up Oc' ∧ (¬ Oc' B ∧ ¬ Oc' (B + 1)) ∧ I (i + 1) Oc' w' ∧ w'.heap[B + 1]? = some (.loop (rec .ready none)) ∧ w'.heap[B]? = some (.deferred (some []))) ∨
           (Ending.returned v = .returned (.bool false) ∧ ∃ Oc', O' = up Oc' ∧ (¬ Oc' B ∧ ¬ Oc' (B + 1)) ∧ ∃ c, Ix c (i + 1) Oc' w' ∧ w'.heap[B + 1]? = some (.loop (rec .done (some c))) ∧ w'.heap[B]? = some (.deferred (some [])))) := fun c O2 W3 hk hc => by
        obtain ⟨hr, l4, d4, n3, hg⟩ := fin (some c) O2 W3 hk
        exact ⟨_, _, hr, up O2, gW.trans hg, .inr ⟨rfl, O2, rfl, n3, c, hIx c _ _ _ _ hc (Turn.putObj W3 n3.2 _), l4, d4⟩⟩
      rintro e a3 W3 hp
      cases e with
      | normal =>
        obtain ⟨O2, hk, hi3⟩ := hp
        obtain ⟨hr, l4, d4, n3, hg⟩ := fin none O2 W3 hk
        exact ⟨_, _, hr, up O2, gW.trans hg, .inl ⟨rfl, O2, rfl, n3, hI _ _ _ _ hi3 (Turn.putObj W3 n3.2 _), l4, d4⟩⟩
      | ret => obtain ⟨O2, hk, hi3⟩ := hp; exact jumps _ O2 W3 hk hi3
      | exit id => obtain ⟨O2, hk, hi3⟩ := hp; exact jumps _ O2 W3 hk hi3
      | goto t => obtain ⟨O2, hk, hi3⟩ := hp; exact jumps _ O2 W3 hk hi3
      | panic ch => exact hp.elim
      | outgrown => exact hp.elim
    · rintro e W2 ⟨⟨v, rfl⟩, (⟨O', Oc, rfl, hn, hi, hl, hd⟩ | ⟨i, hlen, O', Oc, rfl, hn, c, hi, hl, hd⟩)⟩
      · exact ⟨none, _, by have := run_endLoop (P := P) hl (by rw [hrec]; simp); rw [hrec] at this; exact this, hdone _ _ _ (by omega) hn.1 (hI _ _ _ _ hi (Turn.putObj W2 hn.2 _)) ((World.putObj_heap_other (by omega)).trans hd)⟩
      · exact ⟨some c, _, by have := run_endLoop (P := P) hl (by rw [hrec]; simp); rw [hrec] at this; exact this, hstop _ c i _ _ (by omega) hn.1 hlen (hIx c _ _ _ _ hi (Turn.putObj W2 hn.2 _)) ((World.putObj_heap_other (by omega)).trans hd)⟩

end Go.Proofs.Ytdglhppcfdpcaaa.E
namespace Go.Proofs.Ytdglhppcfdpcaaa.E
open Go Go.RowKit Go.Shelf

/-- What a round leaves behind. -/
def NextE (R1 : List Nat) (W1 : World) (Rel : Ents → Prop) (W' : World) : Prop := ∃ L', OwnE R1 W1 L' W' ∧ Rel L'
theorem NextE.mk {R1 : List Nat} {W1 W' : World} {L L' : Ents} {Rel : Ents → Prop} (OW : Hid (OwnE R1 W1 L W')) (ps : List Nat) (hr : Rel L') (he : (nodupB (ps.map fun p => [p]).flatten, (ps.map fun p => [p]).map fun g => g.map fun p => L[p]?) = (true, (L'.map fun x => [x]).map fun N => N.map some) := by kernel_rfl) : NextE R1 W1 Rel W' :=
  ⟨L', OW.out.pick ps L' he, hr⟩
def endE (R1 : List Nat) (W1 : World) (Rel : Ents → Prop) (Rx : Code → Ents → Prop) : Exit → Act → World → Prop
  | .normal, _, W' => NextE R1 W1 Rel W'
  | .ret, _, W' => NextE R1 W1 (Rx .ret) W'
  | .exit id, _, W' => NextE R1 W1 (Rx (.exit id)) W'
  | .goto t, _, W' => NextE R1 W1 (Rx (.goto t)) W'
  | .panic _, _, _ => False
  | .outgrown, _, _ => False
/-- The caller's blocks: those that no round touches, and those of the list. -/
def setB (U : Nat → Prop) (bs : Objs) (b : Nat) : Prop := U b ∨ ∃ x ∈ bs, x.1 = b
def invE (U : Nat → Prop) (m : Nat) (R : List Nat) (base : World) (Rel : Nat → Ents → Prop) (i : Nat) (O : Nat → Prop) (W : World) : Prop :=
  ∃ L cs, Rel i L ∧ SatL L cs ∧ O = setB U cs.flatten ∧ OwnS R base cs.flatten W ∧ m ≤ W.heap.size ∧ ∀ x ∈ cs.flatten, ¬ U x.1
/-- The blocks KO stand in the list, told one by one. -/
def Holds (KO : Objs) (L : Ents) : Prop := ∀ x ∈ KO, ∃ bs, Ent.c bs ∈ L ∧ x ∈ bs
theorem Holds.mem {KO : Objs} {L : Ents} {cs : List Objs} (h : Holds KO L) (hs : SatL L cs) : ∀ x ∈ KO, x ∈ cs.flatten := by
  intro x hx
  obtain ⟨bs, hm, hb⟩ := h x hx
  obtain ⟨i, hi, e⟩ := List.getElem_of_mem hm
  have h1 : cs.getD i [] = bs := satL_get hs (i := i) (x := .c bs) (by rw [List.getElem?_eq_getElem hi, e])
  have hl : i < cs.length := by rw [← satL_at hs]; exact hi
  exact List.mem_flatten.2 ⟨_, mem_getD hl, by rw [h1]; exact hb⟩
section
variable {U : Nat → Prop} {m : Nat} {R : List Nat} {base : World} {Rel : Nat → Ents → Prop}
theorem invE.stay (hU : ∀ b, b < base.heap.size → b ∉ R → U b) : StayO (invE U m R base Rel) := by
  rintro i O W W' ⟨L, cs, h1, hs, rfl, h3, h4, h5⟩ t
  exact ⟨L, cs, h1, hs, rfl, h3.turn t (fun x hx => .inr ⟨x, hx, rfl⟩) (fun b hb hn => .inl (hU b hb hn)), Nat.le_trans h4 t.size, h5⟩
theorem grow_of {K : Nat → Prop} {bs bs' : Objs} {W1 W' : World} (h1 : OwnS (ids bs) W1 bs' W') (hO : OwnS R base bs W1) (hm : m ≤ W1.heap.size) (hU : ∀ b, U b → b < m) (hn : ∀ x ∈ bs, ¬ U x.1)
    (hK : ∀ b, K b → b < W1.heap.size → W'.heap[b]? = W1.heap[b]?) : GrowE K (setB U bs) (setB U bs') W1 W' ∧ OwnS R base bs' W' ∧ m ≤ W'.heap.size ∧ ∀ x ∈ bs', ¬ U x.1 := by
  have hb : ∀ b, U b → b ∉ ids bs := fun b hb hx => by
    obtain ⟨y, hy, e⟩ := List.mem_map.1 hx
    exact hn y hy (by rw [e]; exact hb)
  refine ⟨⟨h1.size, ?_, ?_, ?_⟩, hO.join h1, Nat.le_trans hm h1.size, fun x hx hu => ?_⟩
  · rintro b hb (h | ⟨y, hy, rfl⟩)
    · exact .inl h
    · rcases h1.lo y hy with h4 | h4
      · obtain ⟨x, hx, e⟩ := List.mem_map.1 h4
        exact .inr ⟨x, hx, e⟩
      · omega
  · rintro b (h | ⟨y, hy, rfl⟩)
    · have := hU b h; have := h1.size; omega
    · exact h1.lt hy
  · intro b hlt hk
    rcases hk with hk | hk
    · refine h1.far b hlt fun hx => ?_
      obtain ⟨y, hy, e⟩ := List.mem_map.1 hx
      exact hk (.inr ⟨y, hy, e⟩)
    · exact hK b hk hlt
  · rcases h1.lo x hx with h4 | h4
    · exact hb x.1 hu h4
    · have := hU _ hu; omega
theorem NextE.grow {KO : Objs} {i : Nat} {L : Ents} {cs : List Objs} {W1 W' : World} (h : NextE (ids cs.flatten) W1 (Rel i) W') (hs : SatL L cs) (hO : OwnS R base cs.flatten W1) (hm : m ≤ W1.heap.size) (hU : ∀ b, U b → b < m) (hn : ∀ x ∈ cs.flatten, ¬ U x.1)
    (hK : Holds KO L) (hR : ∀ L', Rel i L' → Holds KO L') : ∃ O', GrowE (fun b => ∃ x ∈ KO, x.1 = b) (setB U cs.flatten) O' W1 W' ∧ invE U m R base Rel i O' W' := by
  obtain ⟨L', h1, h2⟩ := h
  obtain ⟨ds, hd, h1⟩ := h1.conc
  obtain ⟨g, h3, h4, h5⟩ := grow_of (K := fun b => ∃ x ∈ KO, x.1 = b) h1 hO hm hU hn (by
    rintro b ⟨x, hx, rfl⟩ _
    exact (h1.obj x ((hR L' h2).mem hd x hx)).trans (hO.obj x (hK.mem hs x hx)).symm)
  exact ⟨_, g, L', ds, h2, hd, rfl, h3, h4, h5⟩
end
/-- The contract of an iterator that reads the blocks KO, and writes none that it has not made. -/
def IterE {α : Type} (n : Nat) (P : Program) (gf : Nat) (lb : Array Value) (encs : α → Array Value) (xs : List α) (KO : Objs) : Prop :=
  IterX Fence.wide n P gf lb encs xs (fun b => ∃ x ∈ KO, x.1 = b) (fun _ => Has KO)
/-- The same, of an iterator that is given the blocks XO for good. -/
def IterG {α : Type} (n : Nat) (P : Program) (gf : Nat) (lb : Array Value) (encs : α → Array Value) (xs : List α) (KO XO : Objs) : Prop :=
  IterX Fence.wide n P gf lb encs xs (fun b => ∃ x ∈ KO, x.1 = b) (fun O W => Has (KO ++ XO) W ∧ ∀ x ∈ XO, ¬ O x.1)
/-- The yielded values, put into the frame. -/
def putP (t : Array Value) (ps : Array Tmp) (vs : Array Value) : Array Value := (ps.zip vs).foldl (fun t (p, v) => t.setIfInBounds p v) t
theorem reG_iter {α : Type} {n : Nat} {P : Program} {g : Operand} {ps : Array Tmp} {assign body : Code} {Q : Exit → Act → World → Prop} {a : Act} {W : World}
    (h1 : 1 ≤ n) {gf : Nat} {lb : Array Value} (hg : a.eval g = .func (.func gf) #[] lb) (eg : ∀ args w, (callFunc gf args).run P w = .ok (.enter gf args) w)
    {encs : α → Array Value} {xs : List α} {KO XO : Objs} (hit : IterG (n - 1) P gf lb encs xs KO XO)
    {R : List Nat} {base : World} (Rel : Nat → Ents → Prop) (Rx : Code → Nat → Ents → Prop) {L0 : Ents} (OW : Hid (OwnE R base (L0 ++ [.c XO]) W)) (h0 : Rel 0 L0)
    (hKO : ∀ i L, Rel i L → Holds KO L) (hKx : ∀ c i L, Rx c i L → Holds KO L) (hnd : (KO ++ XO).Pairwise fun x y => x.1 ≠ y.1) (hps : ∀ x, (encs x).size = ps.size)
    (hround : ∀ (l i : Nat) (x : α) (L : Ents) (R1 : List Nat) (W : World), xs[i]? = some x → Rel i L → Hid (OwnE R1 W L W) →
      assign.wpIn (Fence.wide.inRound l) (n - 1 - 1) P (Exit.then (fun a' Wa => ∃ La, OwnE R1 W La Wa ∧ Holds KO La ∧ ∀ R2 W1, Hid (OwnE R2 W1 La W1) →
        body.wpIn (Fence.wide.inRound l) (n - 1 - 1) P (endE R2 W1 (Rel (i + 1)) (fun c => Rx c (i + 1))) a' W1) (fun _ _ _ => False)) { tmps := putP a.tmps ps (encs x), defers := [] } W)
    (hdone : ∀ (D : Nat) (L : Ents) (W2 : World), Rel xs.length L → Hid (OwnE R base (L ++ [mk D]) W2) → Q .normal { a with defers := markD D :: a.defers } W2)
    (hstop : ∀ (D : Nat) (c : Code) (i : Nat) (L : Ents) (W2 : World), i < xs.length → Rx c (i + 1) L → Hid (OwnE R base (L ++ [mk D]) W2) → c.wpIn Fence.wide n P Q { a with defers := markD D :: a.defers } W2) :
    (Code.rangeFunc g ps assign body).wpIn Fence.wide n P Q a W := by
  unfold putP at hround
  obtain ⟨c9, hs9, hO9⟩ := OW.out.conc
  obtain ⟨c0, c1, rfl, hs0, hs1⟩ := satL_split hs9
  have e1 : c1.flatten = XO := by
    match c1, hs1 with
    | [d], h => have h1 : d = XO := h.1; simpa using h1
    | d :: _ :: _, h => exact h.2.elim
  rw [List.flatten_append, e1] at hO9
  have hO0 : OwnS R base c0.flatten W := hO9.sub (List.sublist_append_left _ _)
  have hXn : ∀ x ∈ c0.flatten, ∀ y ∈ XO, x.1 ≠ y.1 := (List.pairwise_append.1 hO9.nd).2.2
  obtain ⟨m, hm⟩ : ∃ m, W.heap.size = m := ⟨_, rfl⟩
  obtain ⟨U, hUd⟩ : ∃ U : Nat → Prop, U = fun b => b < m ∧ b ∉ ids c0.flatten ∧ b ∉ ids XO := ⟨_, rfl⟩
  have hU : ∀ b, U b → b < m := fun b h => by rw [hUd] at h; exact h.1
  have hUR : ∀ b, b < base.heap.size → b ∉ R → U b := fun b hb hn => by
    rw [hUd]
    refine ⟨by have := hO0.size; omega, fun hx => ?_, fun hx => ?_⟩
    · obtain ⟨y, hy, e⟩ := List.mem_map.1 hx
      rcases hO0.lo y hy with h | h
      · exact hn (by rw [← e]; exact h)
      · omega
    · obtain ⟨y, hy, e⟩ := List.mem_map.1 hx
      rcases hO9.lo y (List.mem_append_right _ hy) with h | h
      · exact hn (by rw [← e]; exact h)
      · omega
  have hn0 : ∀ x ∈ c0.flatten, ¬ U x.1 := fun x hx h => by rw [hUd] at h; exact h.2.1 (List.mem_map_of_mem hx)
  have hset : ∀ b, setB U c0.flatten b → b < m := fun b h => by
    rcases h with h | ⟨x, hx, rfl⟩
    · exact hU b h
    · have := hO0.lt hx; omega
  have fin : ∀ (D : Nat) (O1 : Nat → Prop) (L : Ents) (cs : List Objs) (W2 : World), W.heap.size ≤ D → ¬ O1 D → O1 = setB U cs.flatten → SatL L cs → OwnS R base cs.flatten W2 → W2.heap[D]? = some (.deferred (some [])) → OwnE R base (L ++ [mk D]) W2 := by
    rintro D O1 L cs W2 hD hn rfl hs h hd
    refine OwnE.ofS (cs := cs ++ [[markO D]]) (satL_app hs ⟨rfl, trivial⟩) ?_
    rw [List.flatten_append]
    show OwnS R base (cs.flatten ++ [markO D]) W2
    refine ⟨?_, ?_, ?_, h.os, h.tape, h.output, h.size, h.far⟩
    · intro x hx
      rcases List.mem_append.1 hx with hx | hx
      · exact h.obj x hx
      · obtain rfl := List.mem_singleton.1 hx; exact hd
    · refine List.pairwise_append.2 ⟨h.nd, List.pairwise_singleton _ _, fun x hx y hy e => ?_⟩
      obtain rfl := List.mem_singleton.1 hy
      exact hn (.inr ⟨x, hx, e⟩)
    · intro x hx
      rcases List.mem_append.1 hx with hx | hx
      · exact h.lo x hx
      · obtain rfl := List.mem_singleton.1 hx
        exact .inr (Nat.le_trans hO0.size hD)
  have hK0 := (hKO 0 L0 h0).mem hs0
  refine iter_lawE (n := n) (F := Fence.wide) rfl h1 hg trivial eg hit (setB U c0.flatten) (fun W' hW' O1 hO1 => ?_) (fun b hb => by have := hset b hb; omega) (fun b hb => ?_) hps (invE U m R base Rel) (fun c => invE U m R base (Rx c)) (invE.stay hUR) (fun c => invE.stay hUR) ⟨L0, c0, h0, hs0, rfl, hO0, by omega, hn0⟩ ?_ ?_ ?_
  · refine ⟨⟨fun x hx => ?_, hnd⟩, fun x hx h => ?_⟩
    · have hm' : x ∈ c0.flatten ++ XO := (List.mem_append.1 hx).elim (fun h => List.mem_append_left _ (hK0 x h)) (List.mem_append_right _)
      exact (hW' x.1 (hO9.lt hm')).trans (hO9.obj x hm')
    · rcases hO1 x.1 (hO9.lt (List.mem_append_right _ hx)) h with h | ⟨y, hy, e⟩
      · rw [hUd] at h
        exact h.2.2 (List.mem_map_of_mem hx)
      · exact hXn y hy x hx e
  · obtain ⟨x, hx, rfl⟩ := hb
    exact hO0.lt (hK0 x hx)
  · rintro l i x O1 W0 hx hs ⟨Ls0, cs0, hr, hsat, rfl, hO, hm0, hn1⟩
    refine wpIn_mono (hround l i x Ls0 (ids cs0.flatten) W0 hx hr (Lib.hid (OwnE.ofS hsat hO.anew))) ?_
    intro e0 a' Wa hpa
    cases e0 with
    | normal => ?_
    | ret => exact hpa.elim
    | exit id => exact hpa.elim
    | goto t => exact hpa.elim
    | panic ch => exact hpa.elim
    | outgrown => exact hpa.elim
    obtain ⟨La, hOa, hLa, hbody⟩ := hpa
    obtain ⟨ca, hsa, hOa⟩ := hOa.conc
    obtain ⟨ga, hOW, hm1, hna⟩ := grow_of (K := fun b => ∃ x ∈ KO, x.1 = b) hOa hO hm0 hU hn1 (by
      rintro b ⟨x, hx, rfl⟩ _
      exact (hOa.obj x (hLa.mem hsa x hx)).trans (hO.obj x ((hKO _ _ hr).mem hsat x hx)).symm)
    refine ⟨_, ga, ?_⟩
    intro W1 tW sW
    have hO1 : OwnS R base ca.flatten W1 := hOW.turn tW (fun x hx => .inr ⟨x, hx, rfl⟩) (fun b hb hn => .inl (hUR b hb hn))
    have hm2 : m ≤ W1.heap.size := by omega
    refine wpIn_mono (hbody (ids ca.flatten) W1 (Lib.hid (OwnE.ofS hsa hO1.anew))) ?_
    intro e a' W' h
    cases e with
    | normal => exact h.grow hsa hO1 hm2 hU hna hLa (hKO (i + 1))
    | ret => exact h.grow (Rel := Rx .ret) hsa hO1 hm2 hU hna hLa (hKx .ret (i + 1))
    | exit id => exact h.grow (Rel := Rx (.exit id)) hsa hO1 hm2 hU hna hLa (hKx (.exit id) (i + 1))
    | goto t => exact h.grow (Rel := Rx (.goto t)) hsa hO1 hm2 hU hna hLa (hKx (.goto t) (i + 1))
    | panic c => exact h.elim
    | outgrown => exact h.elim
  · rintro D O1 W2 hD hn ⟨L, cs, hr, hs, he, hO, hm1, hn1⟩ hd
    exact hdone D L W2 hr (Lib.hid (fin D O1 L cs W2 hD hn he hs hO hd))
  · rintro D c i O1 W2 hD hn hi ⟨L, cs, hr, hs, he, hO, hm1, hn1⟩ hd
    exact hstop D c i L W2 hi hr (Lib.hid (fin D O1 L cs W2 hD hn he hs hO hd))

theorem reE_iter {α : Type} {n : Nat} {P : Program} {g : Operand} {ps : Array Tmp} {assign body : Code} {Q : Exit → Act → World → Prop} {a : Act} {W : World}
    (h1 : 1 ≤ n) {gf : Nat} {lb : Array Value} (hg : a.eval g = .func (.func gf) #[] lb) (eg : ∀ args w, (callFunc gf args).run P w = .ok (.enter gf args) w)
    {encs : α → Array Value} {xs : List α} {KO : Objs} (hit : IterE (n - 1) P gf lb encs xs KO)
    {R : List Nat} {base : World} (Rel : Nat → Ents → Prop) (Rx : Code → Nat → Ents → Prop) {L0 : Ents} (OW : Hid (OwnE R base L0 W)) (h0 : Rel 0 L0)
    (hKO : ∀ i L, Rel i L → Holds KO L) (hKx : ∀ c i L, Rx c i L → Holds KO L) (hnd : KO.Pairwise fun x y => x.1 ≠ y.1) (hps : ∀ x, (encs x).size = ps.size)
    (hround : ∀ (l i : Nat) (x : α) (L : Ents) (R1 : List Nat) (W : World), xs[i]? = some x → Rel i L → Hid (OwnE R1 W L W) →
      assign.wpIn (Fence.wide.inRound l) (n - 1 - 1) P (Exit.then (fun a' Wa => ∃ La, OwnE R1 W La Wa ∧ Holds KO La ∧ ∀ R2 W1, Hid (OwnE R2 W1 La W1) →
        body.wpIn (Fence.wide.inRound l) (n - 1 - 1) P (endE R2 W1 (Rel (i + 1)) (fun c => Rx c (i + 1))) a' W1) (fun _ _ _ => False)) { tmps := putP a.tmps ps (encs x), defers := [] } W)
    (hdone : ∀ (D : Nat) (L : Ents) (W2 : World), Rel xs.length L → Hid (OwnE R base (L ++ [mk D]) W2) → Q .normal { a with defers := markD D :: a.defers } W2)
    (hstop : ∀ (D : Nat) (c : Code) (i : Nat) (L : Ents) (W2 : World), i < xs.length → Rx c (i + 1) L → Hid (OwnE R base (L ++ [mk D]) W2) → c.wpIn Fence.wide n P Q { a with defers := markD D :: a.defers } W2) :
    (Code.rangeFunc g ps assign body).wpIn Fence.wide n P Q a W := by
  refine reG_iter (XO := []) h1 hg eg (fun l J Jx W O hSt => hit l J Jx W O (by simpa using hSt.1)) Rel Rx (Lib.hid ?_) h0 hKO hKx (by simpa using hnd) hps hround hdone hstop
  obtain ⟨cs, hs, hO⟩ := OW.out.conc
  exact OwnE.ofS (cs := cs ++ [[]]) (satL_app hs ⟨rfl, trivial⟩) (by simpa using hO)

/-- An iterator at work: K is what it reads, bs what it has made. -/
structure ItS (J : Nat → (Nat → Prop) → World → Prop) (K : Objs) (W0 : World) (L : Objs) (j : Nat) (wr : World) : Prop where
  ex : ∃ O, J j O wr ∧ (∀ x ∈ L, ¬ O x.1) ∧ ∀ b, O b → b < wr.heap.size
  sz : W0.heap.size ≤ wr.heap.size
  has : Has (K ++ L) wr
section
variable {J : Nat → (Nat → Prop) → World → Prop} {K : Objs} {W0 wr W' : World} {L L' : Objs} {j : Nat}
theorem ItS.step (hJ : StayO J) (h : ItS J K W0 L j wr) (hO : OwnS ((K ++ L).map (·.1)) wr (K ++ L') W') : ItS J K W0 L' j W' := by
  obtain ⟨O, h1, h2, h3⟩ := h.ex
  have t : Turn (fun b => ¬ O b) wr W' := ⟨hO.os, hO.tape, hO.output, hO.size, fun b hb hn => by
    have hb' : O b := Classical.not_not.1 hn
    by_cases hx : b ∈ (K ++ L).map (·.1)
    · obtain ⟨y, hy, e⟩ := List.mem_map.1 hx
      rcases List.mem_append.1 hy with hy | hy
      · rw [← e]
        exact (hO.obj y (List.mem_append_left _ hy)).trans (h.has.obj y (List.mem_append_left _ hy)).symm
      · exact absurd hb' (by rw [← e]; exact h2 y hy)
    · exact hO.far b hb hx⟩
  refine ⟨⟨O, hJ j O wr W' h1 t, fun x hx hox => ?_, fun b hb => Nat.lt_of_lt_of_le (h3 b hb) hO.size⟩, Nat.le_trans h.sz hO.size, hO.obj, hO.nd⟩
  rcases hO.lo x (List.mem_append_right _ hx) with h4 | h4
  · obtain ⟨y, hy, e⟩ := List.mem_map.1 h4
    rcases List.mem_append.1 hy with hy | hy
    · exact (List.pairwise_append.1 hO.nd).2.2 y hy x hx e
    · exact h2 y hy (by rw [e]; exact hox)
  · have := h3 _ hox; omega
/-- The same, of entries: what is made is a pack. -/
theorem ItS.stepE {A : Ents} {LE : Ents} (hJ : StayO J) (h : ItS J K W0 L j wr) (hK : ∀ ds, SatL A ds → ds.flatten = K) (hO : OwnE ((K ++ L).map (·.1)) wr (A ++ LE) W') : ∃ ds, SatL LE ds ∧ ItS J K W0 ds.flatten j W' := by
  obtain ⟨es, hs, hO⟩ := hO.conc
  obtain ⟨d1, d2, rfl, h1, h2⟩ := satL_split hs
  rw [List.flatten_append, hK d1 h1] at hO
  exact ⟨d2, h2, h.step hJ hO⟩
end
theorem iterE_of {α : Type} {n : Nat} {P : Program} {gf : Nat} {lb : Array Value} {encs : α → Array Value} {xs : List α} {KO : Objs}
    (h : ∀ (l : Nat) (J Jx : Nat → (Nat → Prop) → World → Prop) (W : World), StayO J →
      Hid (∀ (L : Objs) (j : Nat) (x : α) (wr : World), xs[j]? = some x → ItS J KO W L j wr → YieldAt Fence.wide (n - 1) P l (encs x) wr fun e W' => (e = .returned (.bool true) ∧ ItS J KO W L (j + 1) W') ∨ (e = .returned (.bool false) ∧ ∃ O', Jx (j + 1) O' W')) →
      Hid (ItS J KO W [] 0 W) → CallsIn Fence.wide n P gf (#[.func (.yield l) #[] #[]] ++ lb) W fun e W' => (∃ v, e = .returned v) ∧ ((∃ L, ItS J KO W L xs.length W') ∨ ∃ i, i < xs.length ∧ ∃ O', Jx (i + 1) O' W')) :
    IterE n P gf lb encs xs KO := by
  intro l J Jx W O hSt hJ hJx hO hY h0
  refine (h l J Jx W hJ (Lib.hid ?_) (Lib.hid ⟨⟨O, h0, fun _ h => by simp at h, hO⟩, Nat.le_refl _, by simpa using hSt⟩)).mono ?_
  · intro L j x wr hx hi
    obtain ⟨O1, h1, h2, h3⟩ := hi.ex
    refine (hY j x O1 wr hx h1 hi.sz).mono ?_
    rintro e W' ⟨O', hg, h4 | h4⟩
    · refine .inl ⟨h4.1, ⟨O', h4.2, fun x hx hox => ?_, hg.new⟩, Nat.le_trans hi.sz hg.size, ⟨fun x hx => ?_, hi.has.nd⟩⟩
      · have hlt : x.1 < wr.heap.size := (Array.getElem?_eq_some_iff.1 (hi.has.obj x (List.mem_append_right _ hx))).1
        exact h2 x hx (hg.old _ hlt hox)
      · have hlt : x.1 < wr.heap.size := (Array.getElem?_eq_some_iff.1 (hi.has.obj x hx)).1
        rcases List.mem_append.1 hx with hx' | hx'
        · exact (hg.keep _ hlt (.inr ⟨x, hx', rfl⟩)).trans (hi.has.obj x hx)
        · exact (hg.keep _ hlt (.inl (h2 x hx'))).trans (hi.has.obj x hx)
    · exact .inr ⟨h4.1, O', h4.2⟩
  · rintro e W' ⟨hv, h4 | h4⟩
    · refine ⟨hv, .inl ?_⟩
      obtain ⟨L, hL⟩ := h4
      obtain ⟨O1, h5, _⟩ := hL.ex
      exact ⟨O1, h5⟩
    · exact ⟨hv, .inr h4⟩
theorem iterG_of {α : Type} {n : Nat} {P : Program} {gf : Nat} {lb : Array Value} {encs : α → Array Value} {xs : List α} {KO XO : Objs}
    (h : ∀ (l : Nat) (J Jx : Nat → (Nat → Prop) → World → Prop) (W : World), StayO J →
      Hid (∀ (L : Objs) (j : Nat) (x : α) (wr : World), xs[j]? = some x → ItS J KO W L j wr → YieldAt Fence.wide (n - 1) P l (encs x) wr fun e W' => (e = .returned (.bool true) ∧ ItS J KO W L (j + 1) W') ∨ (e = .returned (.bool false) ∧ ∃ O', Jx (j + 1) O' W')) →
      Hid (ItS J KO W XO 0 W) → CallsIn Fence.wide n P gf (#[.func (.yield l) #[] #[]] ++ lb) W fun e W' => (∃ v, e = .returned v) ∧ ((∃ L, ItS J KO W L xs.length W') ∨ ∃ i, i < xs.length ∧ ∃ O', Jx (i + 1) O' W')) :
    IterG n P gf lb encs xs KO XO := by
  intro l J Jx W O hSt hJ hJx hO hY h0
  refine (h l J Jx W hJ (Lib.hid ?_) (Lib.hid ⟨⟨O, h0, hSt.2, hO⟩, Nat.le_refl _, hSt.1⟩)).mono ?_
  · intro L j x wr hx hi
    obtain ⟨O1, h1, h2, h3⟩ := hi.ex
    refine (hY j x O1 wr hx h1 hi.sz).mono ?_
    rintro e W' ⟨O', hg, h4 | h4⟩
    · refine .inl ⟨h4.1, ⟨O', h4.2, fun x hx hox => ?_, hg.new⟩, Nat.le_trans hi.sz hg.size, ⟨fun x hx => ?_, hi.has.nd⟩⟩
      · have hlt : x.1 < wr.heap.size := (Array.getElem?_eq_some_iff.1 (hi.has.obj x (List.mem_append_right _ hx))).1
        exact h2 x hx (hg.old _ hlt hox)
      · have hlt : x.1 < wr.heap.size := (Array.getElem?_eq_some_iff.1 (hi.has.obj x hx)).1
        rcases List.mem_append.1 hx with hx' | hx'
        · exact (hg.keep _ hlt (.inr ⟨x, hx', rfl⟩)).trans (hi.has.obj x hx)
        · exact (hg.keep _ hlt (.inl (h2 x hx'))).trans (hi.has.obj x hx)
    · exact .inr ⟨h4.1, O', h4.2⟩
  · rintro e W' ⟨hv, h4 | h4⟩
    · refine ⟨hv, .inl ?_⟩
      obtain ⟨L, hL⟩ := h4
      obtain ⟨O1, h5, _⟩ := hL.ex
      exact ⟨O1, h5⟩
    · exact ⟨hv, .inr h4⟩
theorem range_map_some {α : Type} {n i : Nat} {f : Nat → α} {x : α} (h : ((List.range n).map f)[i]? = some x) : i < n ∧ f i = x := by
  rw [List.getElem?_map] at h
  rcases Nat.lt_or_ge i n with hi | hi
  · rw [List.getElem?_range hi, Option.map_some, Option.some.injEq] at h
    exact ⟨hi, h⟩
  · rw [List.getElem?_eq_none (by rw [List.length_range]; exact hi)] at h
    cases h
theorem range_map_get {α : Type} {n i : Nat} {f : Nat → α} (h : i < n) : ((List.range n).map f)[i]? = some (f i) := by rw [List.getElem?_map, List.getElem?_range h]; rfl
theorem list_some {α : Type} (d : α) {i : Nat} {xs : List α} {x : α} (h : xs[i]? = some x) : i < xs.length ∧ xs.getD i d = x := by
  obtain ⟨hi, rfl⟩ := List.getElem?_eq_some_iff.1 h
  exact ⟨hi, by rw [List.getD_eq_getElem?_getD, List.getElem?_eq_getElem hi]; rfl⟩
end Go.Proofs.Ytdglhppcfdpcaaa.E
