/- Several texts in one: Eg Eh Ei. -/
import Derived.Test.YtckhkagkpldoiaaEeB
import Derived.Test.YtckhkagkpldoiaaOwX
import Derived.Test.YtckhkagkpldoiaaRfX
namespace Go.Proofs.Ytckhkagkpldoiaa.E
open Go Go.RowKit Go.Shelf
section
variable {R : List Nat} {base W W' w : World} {L L' N : Ents}

theorem satL_get : ∀ {L : Ents} {cs : List Objs}, SatL L cs → ∀ {i : Nat} {x : Ent}, L[i]? = some x → x.sat (cs.getD i [])
  | y :: L, c :: cs, h, 0, x, hx => by simp only [List.getElem?_cons_zero, Option.some.injEq] at hx; subst hx; exact h.1
  | y :: L, c :: cs, h, i + 1, x, hx => satL_get h.2 (by simpa using hx)
  | [], [], _, i, x, hx => by simp at hx
  | [], _ :: _, h, _, _, _ => h.elim
  | _ :: _, [], h, _, _, _ => h.elim
theorem satL_of {c : Cnc} : ∀ {L : Ents} {ps : List Nat}, ps.length = L.length → (∀ (i : Nat) (x : Ent), L[i]? = some x → x.sat (c (ps.getD i 0))) → SatL L (ps.map c)
  | [], [], _, _ => trivial
  | x :: L, p :: ps, h, hs => ⟨hs 0 x rfl, satL_of (by simpa using h) fun i y hy => hs (i + 1) y (by simpa using hy)⟩
  | [], _ :: _, h, _ => by simp at h
  | _ :: _, [], h, _ => by simp at h
theorem satL_cons {x : Ent} {xs : Ents} {cs : List Objs} (h : SatL (x :: xs) cs) : ∃ d ds, cs = d :: ds ∧ x.sat d ∧ SatL xs ds := by
  cases cs with
  | nil => exact h.elim
  | cons d ds => exact ⟨d, ds, rfl, h.1, h.2⟩
theorem satL_nil {cs : List Objs} (h : SatL [] cs) : cs = [] := by
  cases cs with
  | nil => rfl
  | cons d ds => exact h.elim
theorem mem_getD {α : Type} {d : α} {cs : List α} {i : Nat} (h : i < cs.length) : cs.getD i d ∈ cs := by
  rw [List.getD_eq_getElem?_getD, List.getElem?_eq_getElem h]; exact List.getElem_mem h
theorem getD_out {α : Type} {d : α} {cs : List α} {i : Nat} (h : ¬ i < cs.length) : cs.getD i d = d := by
  rw [List.getD_eq_getElem?_getD, List.getElem?_eq_none (by omega)]; rfl
/-- The lists of a pairwise apart list of lists. -/
theorem flat_apart {cs : List Objs} (h : cs.flatten.Pairwise fun x y => x.1 ≠ y.1) : (∀ i, (cs.getD i []).Pairwise fun x y => x.1 ≠ y.1) ∧ ∀ i j, i ≠ j → ∀ z ∈ cs.getD i [], ∀ u ∈ cs.getD j [], z.1 ≠ u.1 := by
  rw [List.pairwise_flatten] at h
  refine ⟨fun i => ?_, fun i j hne z hz u hu => ?_⟩
  · by_cases hi : i < cs.length
    · exact h.1 _ (mem_getD hi)
    · rw [getD_out hi]; exact List.Pairwise.nil
  · by_cases hi : i < cs.length
    · by_cases hj : j < cs.length
      · have hp := List.pairwise_iff_getElem.1 h.2
        rw [List.getD_eq_getElem?_getD, List.getElem?_eq_getElem hi] at hz
        rw [List.getD_eq_getElem?_getD, List.getElem?_eq_getElem hj] at hu
        rcases Nat.lt_or_gt_of_ne hne with l | l
        · exact hp i j hi hj l z hz u hu
        · exact Ne.symm (hp j i hj hi l u hu z hz)
      · rw [getD_out hj] at hu; simp at hu
    · rw [getD_out hi] at hz; simp at hz
theorem OwnE.start {cs : List Objs} (hs : SatL L cs) (hh : Has cs.flatten w) : OwnE (ids cs.flatten) w L w := by
  have ha := flat_apart hh.nd
  have hl := satL_at hs
  have hm : ∀ i, ∀ z ∈ cs.getD i [], z ∈ cs.flatten := fun i z hz => by
    by_cases hi : i < cs.length
    · exact List.mem_flatten.2 ⟨_, mem_getD hi, hz⟩
    · rw [getD_out hi] at hz; simp at hz
  exact ⟨fun i => cs.getD i [], fun p hp x hx => satL_get hs hx, fun p hp hx => by rw [List.getElem?_eq_none_iff] at hx; omega, fun p _ z hz => hh.obj z (hm p z hz), fun p _ => ha.1 p, fun p q _ _ hne => ha.2 p q hne,
    fun p _ z hz => .inl (List.mem_map.2 ⟨z, hm p z hz, rfl⟩), rfl, rfl, rfl, Nat.le_refl _, fun _ _ _ => rfl⟩
theorem OwnE.cast (h : OwnE R base L W) (e : L = L') : OwnE R base L' W := by rwa [e] at h
/-- Entries put together, taken for weaker ones, in another order. -/
def SatG : List Ents → Ents → Prop
  | [], [] => True
  | N :: Ns, x :: xs => (∀ ds, SatL N ds → x.sat ds.flatten) ∧ SatG Ns xs
  | _, _ => False
theorem satG_len : ∀ {Ns : List Ents} {L : Ents}, SatG Ns L → Ns.length = L.length
  | [], [], _ => rfl
  | _ :: _, _ :: _, h => by rw [List.length_cons, List.length_cons, satG_len h.2]
  | [], _ :: _, h => h.elim
  | _ :: _, [], h => h.elim
theorem satG_get : ∀ {Ns : List Ents} {L : Ents}, SatG Ns L → ∀ {i : Nat} {x : Ent}, L[i]? = some x → ∃ N, Ns[i]? = some N ∧ ∀ ds, SatL N ds → x.sat ds.flatten
  | N :: Ns, y :: L, h, 0, x, hx => by simp only [List.getElem?_cons_zero, Option.some.injEq] at hx; subst hx; exact ⟨N, rfl, h.1⟩
  | N :: Ns, y :: L, h, i + 1, x, hx => by
    obtain ⟨M, h1, h2⟩ := satG_get h.2 (i := i) (x := x) (by simpa using hx)
    exact ⟨M, by simpa using h1, h2⟩
  | [], [], _, i, x, hx => by simp at hx
  | [], _ :: _, h, _, _, _ => h.elim
  | _ :: _, [], h, _, _, _ => h.elim
theorem satG_one (x : Ent) : ∀ ds, SatL [x] ds → x.sat ds.flatten := fun ds h => by
  obtain ⟨d, es, rfl, h1, h2⟩ := satL_cons h
  rw [satL_nil h2]
  simpa using h1
theorem satG_same : ∀ L : Ents, SatG (L.map fun x => [x]) L
  | [] => trivial
  | x :: L => ⟨satG_one x, satG_same L⟩
theorem nodup_flat {gs : List (List Nat)} (h : gs.flatten.Nodup) {i j a b p : Nat} {g g' : List Nat} (hi : gs[i]? = some g) (hj : gs[j]? = some g') (ha : g[a]? = some p) (hb : g'[b]? = some p) : i = j ∧ a = b := by
  unfold List.Nodup at h
  rw [List.pairwise_flatten] at h
  by_cases e : i = j
  · subst e
    rw [hi] at hj
    cases hj
    refine ⟨rfl, ?_⟩
    have hp := List.pairwise_iff_getElem.1 (h.1 g (List.mem_of_getElem? hi))
    obtain ⟨ha1, ha2⟩ := List.getElem?_eq_some_iff.1 ha
    obtain ⟨hb1, hb2⟩ := List.getElem?_eq_some_iff.1 hb
    apply Classical.byContradiction
    intro hne
    rcases Nat.lt_or_gt_of_ne hne with l | l
    · exact hp a b ha1 hb1 l (ha2.trans hb2.symm)
    · exact hp b a hb1 ha1 l (hb2.trans ha2.symm)
  · exfalso
    have hp := List.pairwise_iff_getElem.1 h.2
    obtain ⟨hi1, hi2⟩ := List.getElem?_eq_some_iff.1 hi
    obtain ⟨hj1, hj2⟩ := List.getElem?_eq_some_iff.1 hj
    have m1 := List.mem_of_getElem? ha
    have m2 := List.mem_of_getElem? hb
    rw [← hi2] at m1
    rw [← hj2] at m2
    rcases Nat.lt_or_gt_of_ne e with l | l
    · exact hp i j hi1 hj1 l p m1 p m2 rfl
    · exact hp j i hj1 hi1 l p m2 p m1 rfl
theorem OwnE.re (h : OwnE R base L W) (gs : List (List Nat)) {Ns : List Ents} (he : (nodupB gs.flatten, gs.map fun g => g.map fun p => L[p]?) = (true, Ns.map fun N => N.map some)) (hs : SatG Ns L') : OwnE R base L' W := by
  obtain ⟨c, hO⟩ := h
  have hn := nodupB_spec (congrArg (·.1) he)
  have hN := congrArg (·.2) he
  simp only at hN
  have hlen : gs.length = L'.length := by
    have h1 := congrArg List.length hN
    rw [List.length_map, List.length_map] at h1
    exact h1.trans (satG_len hs)
  have gi : ∀ i, i < L'.length → ∃ g N, gs[i]? = some g ∧ Ns[i]? = some N ∧ g.map (fun p => L[p]?) = N.map some := by
    intro i hi
    have h1 := congrArg (fun z => z[i]?) hN
    simp only [List.getElem?_map] at h1
    rw [List.getElem?_eq_getElem (by omega : i < gs.length)] at h1
    cases hq : Ns[i]? with
    | none => rw [hq] at h1; simp at h1
    | some N => rw [hq] at h1; exact ⟨gs[i], N, List.getElem?_eq_getElem (by omega), rfl, by simpa using h1⟩
  have inL : ∀ {g : List Nat} {N : Ents}, g.map (fun p => L[p]?) = N.map some → ∀ p ∈ g, p < L.length := by
    intro g N e p hp
    have : L[p]? ∈ N.map some := by rw [← e]; exact List.mem_map.2 ⟨p, hp, rfl⟩
    obtain ⟨x, _, hx⟩ := List.mem_map.1 this
    exact (List.getElem?_eq_some_iff.1 hx.symm).1
  have cG : ∀ i g, gs[i]? = some g → (gs.getD i []) = g := fun i g hg => by rw [List.getD_eq_getElem?_getD, hg]; rfl
  refine ⟨fun i => (gs.getD i []).flatMap c, ?_, ?_, ?_, ?_, ?_, ?_, hO.os, hO.tape, hO.output, hO.size, hO.far⟩
  · intro i hi x hx
    obtain ⟨g, N, h1, h2, h3⟩ := gi i hi
    obtain ⟨N', h4, h5⟩ := satG_get hs hx
    rw [h2] at h4
    cases h4
    rw [cG i g h1]
    have hS : SatL N (g.map c) := by
      refine satL_of (by have := congrArg List.length h3; simpa using this) fun j y hy => ?_
      have h6 := congrArg (fun z => z[j]?) h3
      simp only [List.getElem?_map, hy, Option.map_some] at h6
      cases hg : g[j]? with
      | none => rw [hg] at h6; simp at h6
      | some p =>
        rw [hg] at h6
        rw [List.getD_eq_getElem?_getD, hg]
        have h7 : L[p]? = some y := by simpa using h6
        exact hO.sat p (List.getElem?_eq_some_iff.1 h7).1 y h7
    have := h5 _ hS
    rwa [← List.flatMap_def] at this
  · intro i hi hx
    rw [List.getElem?_eq_none_iff] at hx
    omega
  · intro i hi z hz
    obtain ⟨g, N, h1, h2, h3⟩ := gi i hi
    rw [cG i g h1] at hz
    obtain ⟨p, hp, hz⟩ := List.mem_flatMap.1 hz
    exact hO.obj p (inL h3 p hp) z hz
  · intro i hi
    obtain ⟨g, N, h1, h2, h3⟩ := gi i hi
    rw [cG i g h1, List.pairwise_flatMap]
    refine ⟨fun p hp => hO.inn p (inL h3 p hp), ?_⟩
    rw [List.pairwise_iff_getElem]
    intro a b ha hb hab z hz u hu
    refine hO.nd _ _ (inL h3 _ (List.getElem_mem ha)) (inL h3 _ (List.getElem_mem hb)) (fun e => ?_) z hz u hu
    have := (nodup_flat hn h1 h1 (List.getElem?_eq_getElem ha) (by rw [List.getElem?_eq_getElem hb, e])).2
    omega
  · intro i j hi hj hne z hz u hu
    obtain ⟨g, N, h1, h2, h3⟩ := gi i hi
    obtain ⟨g', N', k1, k2, k3⟩ := gi j hj
    rw [cG i g h1] at hz
    rw [cG j g' k1] at hu
    obtain ⟨p, hp, hz⟩ := List.mem_flatMap.1 hz
    obtain ⟨q, hq, hu⟩ := List.mem_flatMap.1 hu
    refine hO.nd p q (inL h3 p hp) (inL k3 q hq) (fun e => ?_) z hz u hu
    subst e
    obtain ⟨a, ha1, ha2⟩ := List.getElem_of_mem hp
    obtain ⟨b, hb1, hb2⟩ := List.getElem_of_mem hq
    exact hne (nodup_flat hn h1 k1 (by rw [List.getElem?_eq_getElem ha1, ha2]) (by rw [List.getElem?_eq_getElem hb1, hb2])).1
  · intro i hi z hz
    obtain ⟨g, N, h1, h2, h3⟩ := gi i hi
    rw [cG i g h1] at hz
    obtain ⟨p, hp, hz⟩ := List.mem_flatMap.1 hz
    exact hO.lo p (inL h3 p hp) z hz
theorem OwnE.pick (h : OwnE R base L W) (ps : List Nat) (N : Ents) (he : (nodupB (ps.map fun p => [p]).flatten, (ps.map fun p => [p]).map fun g => g.map fun p => L[p]?) = (true, (N.map fun x => [x]).map fun N => N.map some) := by kernel_rfl) : OwnE R base N W :=
  h.re _ he (satG_same N)
/-- A pack, opened. -/
theorem OwnE.open (h : OwnE R base L W) (k : Nat) {Q : Objs → Prop} (hk : L[k]? = some (.p Q)) : ∃ bs, Q bs ∧ OwnE R base (L.set k (.c bs)) W := by
  obtain ⟨c, hO⟩ := h
  have hlt := (List.getElem?_eq_some_iff.1 hk).1
  refine ⟨c k, hO.sat k hlt _ hk, c, ?_⟩
  rw [List.length_set]
  refine ⟨fun p hp x hx => ?_, fun p hp hx => ?_, hO.obj, hO.inn, hO.nd, hO.lo, hO.os, hO.tape, hO.output, hO.size, hO.far⟩
  · rw [List.getElem?_set] at hx
    by_cases e : k = p
    · subst e
      rw [if_pos rfl, if_pos hlt] at hx
      cases hx
      rfl
    · rw [if_neg e] at hx
      exact hO.sat p hp x hx
  · rw [List.getElem?_eq_none_iff, List.length_set] at hx
    omega
/-- Blocks told together, told apart. -/
theorem OwnE.split (h : OwnE R base L W) (k : Nat) (bss : List Objs) (hk : L[k]? = some (.c bss.flatten)) : OwnE R base (L.set k (.c []) ++ bss.map .c) W := by
  obtain ⟨c, hO⟩ := h
  have hlt := (List.getElem?_eq_some_iff.1 hk).1
  have hck : c k = bss.flatten := hO.sat k hlt _ hk
  have hin := hO.inn k hlt
  rw [hck] at hin
  have ha := flat_apart hin
  have hm : ∀ i, ∀ z ∈ bss.getD i [], z ∈ c k := fun i z hz => by
    rw [hck]
    by_cases hi : i < bss.length
    · exact List.mem_flatten.2 ⟨_, mem_getD hi, hz⟩
    · rw [getD_out hi] at hz; simp at hz
  obtain ⟨c', hc'⟩ : ∃ c' : Cnc, c' = fun p => if p = k then [] else if p < L.length then c p else bss.getD (p - L.length) [] := ⟨_, rfl⟩
  have e0 : c' k = [] := by rw [hc']; exact if_pos rfl
  have e1 : ∀ p, p ≠ k → p < L.length → c' p = c p := fun p h1 h2 => by rw [hc']; simp only; rw [if_neg h1, if_pos h2]
  have e2 : ∀ i, c' (L.length + i) = bss.getD i [] := fun i => by rw [hc']; simp only; rw [if_neg (by omega), if_neg (by omega), Nat.add_sub_cancel_left]
  have cas : ∀ p, p = k ∨ (p ≠ k ∧ p < L.length) ∨ ∃ i, p = L.length + i := fun p => by
    by_cases h1 : p = k
    · exact .inl h1
    · by_cases h2 : p < L.length
      · exact .inr (.inl ⟨h1, h2⟩)
      · exact .inr (.inr ⟨p - L.length, by omega⟩)
  have gl : ∀ p, p ≠ k → p < L.length → (L.set k (.c []) ++ bss.map .c)[p]? = L[p]? := fun p h1 h2 => by
    rw [List.getElem?_append_left (by rw [List.length_set]; exact h2), List.getElem?_set, if_neg (Ne.symm h1)]
  have sub : ∀ p z, z ∈ c' p → ∃ q, q < L.length ∧ z ∈ c q ∧ (q = k ∨ q = p) := fun p z hz => by
    rcases cas p with rfl | ⟨h1, h2⟩ | ⟨i, rfl⟩
    · rw [e0] at hz; simp at hz
    · rw [e1 p h1 h2] at hz; exact ⟨p, h2, hz, .inr rfl⟩
    · rw [e2] at hz; exact ⟨k, hlt, hm i z hz, .inl rfl⟩
  refine ⟨c', fun p hp x hx => ?_, fun p hp hx => ?_, fun p hp z hz => ?_, fun p hp => ?_, fun p q hp hq hne z hz u hu => ?_, fun p hp z hz => ?_, hO.os, hO.tape, hO.output, hO.size, hO.far⟩
  · rcases cas p with rfl | ⟨h1, h2⟩ | ⟨i, rfl⟩
    · rw [List.getElem?_append_left (by rw [List.length_set]; exact hlt), List.getElem?_set, if_pos rfl, if_pos hlt] at hx
      cases hx
      exact e0
    · rw [gl p h1 h2] at hx
      rw [e1 p h1 h2]
      exact hO.sat p h2 x hx
    · rw [List.getElem?_append_right (by rw [List.length_set]; omega), List.length_set, Nat.add_sub_cancel_left, List.getElem?_map] at hx
      cases hq : bss[i]? with
      | none => rw [hq] at hx; cases hx
      | some b =>
        rw [hq] at hx
        cases hx
        rw [e2, List.getD_eq_getElem?_getD, hq]
        rfl
  · rw [List.getElem?_eq_none_iff] at hx
    omega
  · obtain ⟨q, hq, hz, _⟩ := sub p z hz
    exact hO.obj q hq z hz
  · rcases cas p with rfl | ⟨h1, h2⟩ | ⟨i, rfl⟩
    · rw [e0]; exact List.Pairwise.nil
    · rw [e1 p h1 h2]; exact hO.inn p h2
    · rw [e2]; exact ha.1 i
  · rcases cas p with rfl | ⟨h1, h2⟩ | ⟨i, rfl⟩
    · rw [e0] at hz; simp at hz
    · rw [e1 p h1 h2] at hz
      rcases cas q with rfl | ⟨h3, h4⟩ | ⟨j, rfl⟩
      · rw [e0] at hu; simp at hu
      · rw [e1 q h3 h4] at hu; exact hO.nd p q h2 h4 hne z hz u hu
      · rw [e2] at hu; exact hO.nd p k h2 hlt h1 z hz u (hm j u hu)
    · rw [e2] at hz
      rcases cas q with rfl | ⟨h3, h4⟩ | ⟨j, rfl⟩
      · rw [e0] at hu; simp at hu
      · rw [e1 q h3 h4] at hu; exact hO.nd k q hlt h4 (Ne.symm h3) z (hm i z hz) u hu
      · rw [e2] at hu; exact ha.2 i j (by omega) z hz u hu
  · obtain ⟨q, hq, hz, _⟩ := sub p z hz
    exact hO.lo q hq z hz
/-- A call's end. -/
theorem OwnE.fin {rd : Ents} {cs : List Objs} (hs : SatL rd cs) (hh : Has cs.flatten w) (h : OwnE (ids cs.flatten) w L W') (O : List Nat) (N : Ents) (ps : List Nat) (ks : List (Nat × Nat))
    (he : (nodupB (ps ++ ks.map (·.2)), ps.map (fun p => L[p]?), ks.map (fun x => L[x.2]?), (List.range rd.length).all fun i => O.contains i || ks.any fun x => x.1 == i) = (true, N.map some, ks.map (fun x => some (.c (cs.getD x.1 []))), true)) :
    ∃ ds, SatL N ds ∧ Step (O.flatMap fun i => ids (cs.getD i [])) ds.flatten w W' := by
  obtain ⟨c, hO⟩ := h
  simp only [Prod.mk.injEq] at he
  obtain ⟨h1, h2, h3, h4⟩ := he
  have hn := nodupB_spec h1
  have inL : ∀ p ∈ ps, p < L.length := fun p hp => by
    have : L[p]? ∈ N.map some := by rw [← h2]; exact List.mem_map.2 ⟨p, hp, rfl⟩
    obtain ⟨x, _, hx⟩ := List.mem_map.1 this
    exact (List.getElem?_eq_some_iff.1 hx.symm).1
  have kept : ∀ i, i < rd.length → i ∉ O → ∃ k, k < L.length ∧ k ∉ ps ∧ c k = cs.getD i [] := by
    intro i hi hn'
    have h5 := List.all_eq_true.1 h4 i (List.mem_range.2 hi)
    simp only [Bool.or_eq_true, List.any_eq_true, beq_iff_eq] at h5
    rcases h5 with h5 | ⟨x, hx, rfl⟩
    · exact absurd (by simpa using h5) hn'
    · obtain ⟨j, hj, hx'⟩ := List.getElem_of_mem hx
      have h6 := congrArg (fun z => z[j]?) h3
      simp only [List.getElem?_map, List.getElem?_eq_getElem hj, Option.map_some, hx', Option.some.injEq] at h6
      have hlt := (List.getElem?_eq_some_iff.1 h6).1
      refine ⟨x.2, hlt, fun hp => ?_, hO.sat x.2 hlt _ h6⟩
      rw [List.nodup_append] at hn
      exact hn.2.2 x.2 hp x.2 (List.mem_map.2 ⟨x, hx, rfl⟩) rfl
  have inR : ∀ b, b ∈ ids cs.flatten → ∃ i, i < cs.length ∧ ∃ z ∈ cs.getD i [], z.1 = b := by
    intro b hb
    obtain ⟨z, hz, e⟩ := List.mem_map.1 hb
    obtain ⟨d, hd, hz⟩ := List.mem_flatten.1 hz
    obtain ⟨i, hi, e2⟩ := List.getElem_of_mem hd
    exact ⟨i, hi, z, by rw [List.getD_eq_getElem?_getD, List.getElem?_eq_getElem hi, e2]; exact hz, e⟩
  have hl := satL_at hs
  refine ⟨ps.map c, satL_of (by have := congrArg List.length h2; simpa using this) fun j y hy => ?_, hO.os, hO.tape, hO.output, hO.size, fun z hz => ?_, fun z hz => ?_, ?_, fun b hb hnO => ?_⟩
  · have h6 := congrArg (fun z => z[j]?) h2
    simp only [List.getElem?_map, hy, Option.map_some] at h6
    cases hg : ps[j]? with
    | none => rw [hg] at h6; simp at h6
    | some p =>
      rw [hg] at h6
      rw [List.getD_eq_getElem?_getD, hg]
      have h7 : L[p]? = some y := by simpa using h6
      exact hO.sat p (List.getElem?_eq_some_iff.1 h7).1 y h7
  · rw [← List.flatMap_def] at hz
    obtain ⟨p, hp, hz⟩ := List.mem_flatMap.1 hz
    exact hO.obj p (inL p hp) z hz
  · rw [← List.flatMap_def] at hz
    obtain ⟨p, hp, hz⟩ := List.mem_flatMap.1 hz
    rcases hO.lo p (inL p hp) z hz with h5 | h5
    · obtain ⟨i, hi, u, hu, e⟩ := inR _ h5
      by_cases hiO : i ∈ O
      · exact .inl (List.mem_flatMap.2 ⟨i, hiO, List.mem_map.2 ⟨u, hu, e⟩⟩)
      · obtain ⟨k, hk, hkp, hck⟩ := kept i (by omega) hiO
        rw [← hck] at hu
        exact absurd e.symm (hO.nd p k (inL p hp) hk (fun e => hkp (e ▸ hp)) z hz u hu)
    · exact .inr h5
  · rw [← List.flatMap_def, List.pairwise_flatMap]
    refine ⟨fun p hp => hO.inn p (inL p hp), ?_⟩
    rw [List.pairwise_iff_getElem]
    intro i j hi hj hij z hz u hu
    refine hO.nd _ _ (inL _ (List.getElem_mem hi)) (inL _ (List.getElem_mem hj)) (fun e => ?_) z hz u hu
    have hp : ps.Nodup := (List.nodup_append.1 hn).1
    have := (List.pairwise_iff_getElem.1 hp) i j hi hj hij
    exact this e
  · by_cases hbR : b ∈ ids cs.flatten
    · obtain ⟨i, hi, z, hz, e⟩ := inR b hbR
      have hiO : i ∉ O := fun hm => hnO (List.mem_flatMap.2 ⟨i, hm, List.mem_map.2 ⟨z, hz, e⟩⟩)
      obtain ⟨k, hk, _, hck⟩ := kept i (by omega) hiO
      have h5 := hO.obj k hk z (by rw [hck]; exact hz)
      have h6 := hh.obj z (List.mem_flatten.2 ⟨_, mem_getD hi, hz⟩)
      rw [← e, h5, h6]
    · exact hO.far b hb hbR
end
theorem OwnE.get1 {R : List Nat} {base W : World} {L : Ents} (h : OwnE R base L W) {k g : Nat} {x : Obj} (hk : L[k]? = some (.c [(g, x)])) : W.heap[g]? = some x := by
  obtain ⟨c, hO⟩ := h
  have hlt := (List.getElem?_eq_some_iff.1 hk).1
  have hc : c k = [(g, x)] := hO.sat k hlt _ hk
  exact hO.obj k hlt (g, x) (by rw [hc]; exact List.mem_singleton.2 rfl)

/-- Results: a slot's; a cell's; a struct's; a row's. -/
inductive RV (P : Program) : Type
  | t (v : Value)
  | c (v : Value) (k : Nat)
  | s (l : List Value) (k : Nat)
def RV.val {P : Program} : RV P → Value
  | t v => v
  | c v _ => v
  | s l _ => .agg l.toArray
section
variable {P : Program} {L : Ents} {tmps : Array Value}
def resE (P : Program) (L : Ents) (tmps : Array Value) : List ResultVar → List (RV P) → List Eqn
  | [], [] => []
  | .tmp i :: rs, .t v :: vs => sE (tmps.getD i undef) v :: resE P L tmps rs vs
  | .cell p T :: rs, .c v k :: vs => (match L[k]? with
    | some (.c [(g, .cells cs _ (0, 0))]) => [sE (tmps.getD p undef) (ptrV g 0), sE cs[0]? (some v), sE (fun w => (isAgg T).run P w) (fun w => .ok false w)]
    | _ => [sB false]) ++ resE P L tmps rs vs
  | .cell p T :: rs, .s l k :: vs => (match L[k]? with
    | some (.c [(g, .cells cs _ (0, 0))]) => [sE (tmps.getD p undef) (ptrV g 0), sE ((cs.toList.drop 0).take l.length) l, sB (aggB P T), sE ((P.info? T).map (·.size)) (some l.length)]
    | _ => [sB false]) ++ resE P L tmps rs vs
  | _, _ => [sB false]
def outV : List (RV P) → Value
  | [v] => v.val
  | vs => .tuple (vs.map RV.val).toArray
def resF (tmps : Array Value) : ResultVar → Sem Value
  | .tmp t => pure (tmps.getD t undef)
  | .cell a t => do loadVar t (← asAddr (tmps.getD a undef))
theorem run_resF {p g : Nat} {T : TypeId} {v : Value} {W : World} (h : tmps.getD p undef = ptrV g 0) (hr : (loadVar T ⟨g, 0, none⟩).run P W = .ok v W) : (resF tmps (.cell p T)).run P W = .ok v W := by
  have h' : tmps[p]?.getD undef = .pointer (some ⟨g, 0, none⟩) := by simpa [ptrV] using h
  simp [resF, h', asAddr, hr]
theorem resF_all {R : List Nat} {base W : World} (hO : OwnE R base L W) : ∀ (rs : List ResultVar) (vs : List (RV P)), (∀ e ∈ resE P L tmps rs vs, e.2.1 = e.2.2) → (rs.mapM (resF tmps)).run P W = .ok (vs.map RV.val) W := by
  intro rs
  induction rs with
  | nil =>
    intro vs he
    cases vs with
    | nil => simp
    | cons v vs => exact (sB_false (by simpa [resE] using he)).elim
  | cons x rs ih =>
    intro vs he
    cases vs with
    | nil => exact (sB_false (by simpa [resE] using he)).elim
    | cons v vs =>
      have tail : ∀ {w : Value}, (resF tmps x).run P W = .ok w W → v.val = w → (∀ e ∈ resE P L tmps rs vs, e.2.1 = e.2.2) → ((x :: rs).mapM (resF tmps)).run P W = .ok ((v :: vs).map RV.val) W := by
        intro w h1 h2 h3
        rw [List.mapM_cons]
        simp only [Sem.run_bind, h1, ih vs h3, Result.andThen_ok, Sem.run_pure, List.map_cons, h2]
      cases x with
      | tmp i =>
        cases v with
        | t v =>
          simp only [resE, List.mem_cons, forall_eq_or_imp, sE] at he
          exact tail (w := v) (by simp only [resF, Sem.run_pure]; rw [he.1]) rfl he.2
        | _ => exact (sB_false (by simpa only [resE] using he)).elim
      | cell p T =>
        cases v with
        | t v => exact (sB_false (by simpa only [resE] using he)).elim
        | c v k =>
          simp only [resE] at he
          split at he
          · rename_i g cs ty hat
            simp only [List.mem_append, List.mem_cons, List.not_mem_nil, or_false, or_imp, forall_and, forall_eq, sE] at he
            obtain ⟨⟨h1, h2, h3⟩, h4⟩ := he
            have hb : Blk W g ty cs := hO.get1 hat
            exact tail (run_resF h1 (run_loadVar_cell (congrFun h3 W) ((hb.cell 0).trans h2))) rfl h4
          · exact (sB_false fun e he' => he e (List.mem_append_left _ he')).elim
        | s l k =>
          simp only [resE] at he
          split at he
          · rename_i g cs ty hat
            simp only [List.mem_append, List.mem_cons, List.not_mem_nil, or_false, or_imp, forall_and, forall_eq, sE, sB] at he
            obtain ⟨⟨h1, h2, h3, h5⟩, h4⟩ := he
            exact tail (run_resF h1 (run_ls (hO.get1 hat) h2 h3 h5)) rfl h4
          · exact (sB_false fun e he' => he e (List.mem_append_left _ he')).elim
theorem resS {R : List Nat} {base W : World} {fn : Func} (hO : OwnE R base L W) (vs : List (RV P)) (he : (resE P L tmps fn.results.toList vs).map Eqn.lhs = (resE P L tmps fn.results.toList vs).map Eqn.rhs) : (results fn tmps).run P W = .ok (outV vs) W := by
  have h := resF_all hO _ _ (Eqn.all he)
  have h2 : (fn.results.mapM (resF tmps)).run P W = .ok (vs.map RV.val).toArray W := by
    rw [Array.mapM_eq_mapM_toList, map_eq_pure_bind, Sem.run_bind, h]
    simp only [Result.andThen_ok, Sem.run_pure]
  unfold results
  show Sem.run P (bind (fn.results.mapM (resF tmps)) _) W = _
  rw [Sem.run_bind, h2]
  simp only [Result.andThen_ok, Sem.run_pure]
  cases vs with
  | nil => rfl
  | cons v vs =>
    cases vs with
    | nil => rfl
    | cons u vs => rw [dif_neg (by simp)]; rfl
end
/-- A call's end: what lies where the results lie, and what has become of the memory. -/
theorem leavesE {F : Fence} {n : Nat} {P : Program} {fn : Func} {tmps : Array Value} {R : Ending → World → Prop} {R1 : List Nat} {base : World} {L : Ents} {W : World} (OW : Hid (OwnE R1 base L W)) (vs : List (RV P)) (he : (resE P L tmps fn.results.toList vs).map Eqn.lhs = (resE P L tmps fn.results.toList vs).map Eqn.rhs)
    (h : OwnE R1 base L W → R (.returned (outV vs)) W) : LeavesInM F n P fn tmps R [] .returning W := ⟨_, resS OW.out vs he, h OW.out⟩
end Go.Proofs.Ytckhkagkpldoiaa.E
namespace Go.Proofs.Ytckhkagkpldoiaa.E
open Go Go.RowKit Go.Shelf

/-- Blocks, one by one. -/
structure OwnS (R : List Nat) (base : World) (L : Objs) (W : World) : Prop where
  obj : ∀ x ∈ L, W.heap[x.1]? = some x.2
  nd : L.Pairwise (fun x y => x.1 ≠ y.1)
  lo : ∀ x ∈ L, x.1 ∈ R ∨ base.heap.size ≤ x.1
  os : W.os = base.os
  tape : W.tape = base.tape
  output : W.output = base.output
  size : base.heap.size ≤ W.heap.size
  far : ∀ b, b < base.heap.size → b ∉ R → W.heap[b]? = base.heap[b]?
theorem Own.s {B : Nat} {base W : World} {L : Objs} (h : Own B base L W) (hB : base.heap.size ≤ B) : OwnS [] base L W := ⟨h.obj, h.nd, fun x hx => .inr (Nat.le_trans hB (h.lo x hx)), h.os, h.tape, h.output, h.size, fun b hb _ => h.far b hb fun x hx e => by have := h.lo x hx; omega⟩
theorem OwnS.own {B : Nat} {base W : World} {L : Objs} (h : OwnS [] base L W) (hB : B ≤ base.heap.size) : Own B base L W := ⟨h.obj, h.nd, fun x hx => (h.lo x hx).elim (fun h => by simp at h) (fun h => Nat.le_trans hB h), h.os, h.tape, h.output, h.size, fun b hb _ => h.far b hb (by simp)⟩
section
variable {R R0 : List Nat} {base w W W' : World} {L L' : Objs}
theorem OwnS.start {R0 : Objs} (H : Has R0 w) : OwnS (R0.map (·.1)) w R0 w :=
  ⟨H.obj, H.nd, fun x hx => .inl (List.mem_map.2 ⟨x, hx, rfl⟩), rfl, rfl, rfl, Nat.le_refl _, fun _ _ _ => rfl⟩
theorem OwnS.lt (h : OwnS R base L W) {x : Nat × Obj} (hx : x ∈ L) : x.1 < W.heap.size := (Array.getElem?_eq_some_iff.1 (h.obj x hx)).1
theorem OwnS.sub (h : OwnS R base L W) (hs : L'.Sublist L) : OwnS R base L' W := ⟨fun x hx => h.obj x (hs.subset hx), h.nd.sublist hs, fun x hx => h.lo x (hs.subset hx), h.os, h.tape, h.output, h.size, h.far⟩
theorem OwnS.cast (h : OwnS R base L W) (e : L = L') : OwnS R base L' W := by rwa [e] at h
end
section
variable {R R0 : List Nat} {base w W W' W1 : World} {L L' K : Objs} {Ds : List Nat}
theorem OwnS.join (h : OwnS R base L W) (k : OwnS (L.map (·.1)) W L' W') : OwnS R base L' W' :=
  ⟨k.obj, k.nd, fun x hx => (k.lo x hx).elim (fun hm => by obtain ⟨y, hy, e⟩ := List.mem_map.1 hm; rw [← e]; exact h.lo y hy) (fun hm => .inr (Nat.le_trans h.size hm)), k.os.trans h.os, k.tape.trans h.tape, k.output.trans h.output, Nat.le_trans h.size k.size,
    fun b hb hn => (k.far b (Nat.lt_of_lt_of_le hb h.size) fun hm => by
      obtain ⟨y, hy, e⟩ := List.mem_map.1 hm
      rcases h.lo y hy with h1 | h1
      · exact hn (by rw [← e]; exact h1)
      · omega).trans (h.far b hb hn)⟩
theorem OwnS.has (h : OwnS R base L W) : Has L W := ⟨h.obj, h.nd⟩
/-- What is told of the blocks from here on is told of the call's own, and of its marks. -/
def Clo (R : List Nat) (base : World) (R0 : List Nat) (w : World) (Ds : List Nat) : Prop := ∀ L W, OwnS R base L W → OwnS R0 w (L ++ Ds.map markO) W
theorem Clo.nil (R0 : List Nat) (w : World) : Clo R0 w R0 w [] := fun L W h => by simpa using h
end

/-! Entries as blocks. -/
section
variable {R R0 : List Nat} {base w W W' : World} {L L' : Ents} {Ds : List Nat}
theorem OwnE.conc (h : OwnE R base L W) : ∃ cs, SatL L cs ∧ OwnS R base cs.flatten W := by
  obtain ⟨c, hO⟩ := h
  have hm : ∀ {z : Nat × Obj}, z ∈ ((List.range L.length).map c).flatten → ∃ p, p < L.length ∧ z ∈ c p := fun hz => by
    rw [← List.flatMap_def] at hz
    obtain ⟨p, hp, hz⟩ := List.mem_flatMap.1 hz
    exact ⟨p, List.mem_range.1 hp, hz⟩
  refine ⟨(List.range L.length).map c, satL_of (by rw [List.length_range]) fun i x hx => ?_, fun z hz => ?_, ?_, fun z hz => ?_, hO.os, hO.tape, hO.output, hO.size, hO.far⟩
  · have hi := (List.getElem?_eq_some_iff.1 hx).1
    rw [List.getD_eq_getElem?_getD, List.getElem?_range hi]
    exact hO.sat i hi x hx
  · obtain ⟨p, hp, hz⟩ := hm hz
    exact hO.obj p hp z hz
  · rw [← List.flatMap_def, List.pairwise_flatMap]
    refine ⟨fun p hp => hO.inn p (List.mem_range.1 hp), ?_⟩
    exact List.Pairwise.imp_of_mem (fun {a b} ha hb hne z hz u hu => hO.nd a b (List.mem_range.1 ha) (List.mem_range.1 hb) hne z hz u hu) (show (List.range L.length).Pairwise (· ≠ ·) from List.nodup_range)
  · obtain ⟨p, hp, hz⟩ := hm hz
    exact hO.lo p hp z hz
theorem OwnE.ofS {cs : List Objs} (hs : SatL L cs) (h : OwnS R base cs.flatten W) : OwnE R base L W := by
  have ha := flat_apart h.nd
  have hl := satL_at hs
  have hm : ∀ i, ∀ z ∈ cs.getD i [], z ∈ cs.flatten := fun i z hz => by
    by_cases hi : i < cs.length
    · exact List.mem_flatten.2 ⟨_, mem_getD hi, hz⟩
    · rw [getD_out hi] at hz; simp at hz
  exact ⟨fun i => cs.getD i [], fun p hp x hx => satL_get hs hx, fun p hp hx => by rw [List.getElem?_eq_none_iff] at hx; omega, fun p _ z hz => h.obj z (hm p z hz), fun p _ => ha.1 p, fun p q _ _ hne => ha.2 p q hne,
    fun p _ z hz => h.lo z (hm p z hz), h.os, h.tape, h.output, h.size, h.far⟩
abbrev mk (D : Nat) : Ent := .c [markO D]
theorem satL_app : ∀ {L L' : Ents} {cs ds : List Objs}, SatL L cs → SatL L' ds → SatL (L ++ L') (cs ++ ds)
  | [], _, [], _, _, h => h
  | _ :: _, _, _ :: _, _, h, k => ⟨h.1, satL_app h.2 k⟩
  | [], _, _ :: _, _, h, _ => h.elim
  | _ :: _, _, [], _, h, _ => h.elim
theorem satL_split : ∀ {L L' : Ents} {cs : List Objs}, SatL (L ++ L') cs → ∃ ds es, cs = ds ++ es ∧ SatL L ds ∧ SatL L' es
  | [], _, cs, h => ⟨[], cs, rfl, trivial, h⟩
  | x :: L, L', [], h => h.elim
  | x :: L, L', d :: cs, h => by
    obtain ⟨ds, es, e, h1, h2⟩ := satL_split (L := L) h.2
    exact ⟨d :: ds, es, by rw [e]; rfl, ⟨h.1, h1⟩, h2⟩
end
/-- K and ¬ O: kept; O: the caller's. -/
structure GrowE (K O O' : Nat → Prop) (W W' : World) : Prop where
  size : W.heap.size ≤ W'.heap.size
  old : ∀ b, b < W.heap.size → O' b → O b
  new : ∀ b, O' b → b < W'.heap.size
  keep : ∀ b, b < W.heap.size → (¬ O b ∨ K b) → W'.heap[b]? = W.heap[b]?
theorem GrowE.trans {K A B C : Nat → Prop} {W W1 W2 : World} (h : GrowE K A B W W1) (k : GrowE K B C W1 W2) : GrowE K A C W W2 := by
  refine ⟨Nat.le_trans h.size k.size, fun b hb hc => h.old b hb (k.old b (Nat.lt_of_lt_of_le hb h.size) hc), k.new, fun b hb hk => ?_⟩
  refine (k.keep b (Nat.lt_of_lt_of_le hb h.size) ?_).trans (h.keep b hb hk)
  rcases hk with hk | hk
  · exact .inl fun hB => hk (h.old b hb hB)
  · exact .inr hk
end Go.Proofs.Ytckhkagkpldoiaa.E
namespace Go.Proofs.Ytckhkagkpldoiaa.E
open Go Go.RowKit Go.Shelf

/-- What a round leaves behind. -/
def NextE (R1 : List Nat) (W1 : World) (Rel : Ents → Prop) (W' : World) : Prop := ∃ L', OwnE R1 W1 L' W' ∧ Rel L'
theorem NextE.mk {R1 : List Nat} {W1 W' : World} {L L' : Ents} {Rel : Ents → Prop} (OW : Hid (OwnE R1 W1 L W')) (ps : List Nat) (hr : Rel L') (he : (nodupB (ps.map fun p => [p]).flatten, (ps.map fun p => [p]).map fun g => g.map fun p => L[p]?) = (true, (L'.map fun x => [x]).map fun N => N.map some) := by kernel_rfl) : NextE R1 W1 Rel W' :=
  ⟨L', OW.out.pick ps L' he, hr⟩
/-- The caller's blocks: those that no round touches, and those of the list. -/
def setB (U : Nat → Prop) (bs : Objs) (b : Nat) : Prop := U b ∨ ∃ x ∈ bs, x.1 = b
def invE (U : Nat → Prop) (m : Nat) (R : List Nat) (base : World) (Rel : Nat → Ents → Prop) (i : Nat) (O : Nat → Prop) (W : World) : Prop :=
  ∃ L cs, Rel i L ∧ SatL L cs ∧ O = setB U cs.flatten ∧ OwnS R base cs.flatten W ∧ m ≤ W.heap.size ∧ ∀ x ∈ cs.flatten, ¬ U x.1
/-- The blocks KO stand in the list, told one by one. -/
def Holds (KO : Objs) (L : Ents) : Prop := ∀ x ∈ KO, ∃ bs, Ent.c bs ∈ L ∧ x ∈ bs
theorem Holds.mem {KO : Objs} {L : Ents} {cs : List Objs} (h : Holds KO L) (hs : SatL L cs) : ∀ x ∈ KO, x ∈ cs.flatten := by
  intro x hx
  obtain ⟨bs, hm, hb⟩ := h x hx
  obtain ⟨i, hi, e⟩ := List.getElem_of_mem hm
  have h1 : cs.getD i [] = bs := satL_get hs (i := i) (x := .c bs) (by rw [List.getElem?_eq_getElem hi, e])
  have hl : i < cs.length := by rw [← satL_at hs]; exact hi
  exact List.mem_flatten.2 ⟨_, mem_getD hl, by rw [h1]; exact hb⟩
section
variable {U : Nat → Prop} {m : Nat} {R : List Nat} {base : World} {Rel : Nat → Ents → Prop}
theorem grow_of {K : Nat → Prop} {bs bs' : Objs} {W1 W' : World} (h1 : OwnS (ids bs) W1 bs' W') (hO : OwnS R base bs W1) (hm : m ≤ W1.heap.size) (hU : ∀ b, U b → b < m) (hn : ∀ x ∈ bs, ¬ U x.1)
    (hK : ∀ b, K b → b < W1.heap.size → W'.heap[b]? = W1.heap[b]?) : GrowE K (setB U bs) (setB U bs') W1 W' ∧ OwnS R base bs' W' ∧ m ≤ W'.heap.size ∧ ∀ x ∈ bs', ¬ U x.1 := by
  have hb : ∀ b, U b → b ∉ ids bs := fun b hb hx => by
    obtain ⟨y, hy, e⟩ := List.mem_map.1 hx
    exact hn y hy (by rw [e]; exact hb)
  refine ⟨⟨h1.size, ?_, ?_, ?_⟩, hO.join h1, Nat.le_trans hm h1.size, fun x hx hu => ?_⟩
  · rintro b hb (h | ⟨y, hy, rfl⟩)
    · exact .inl h
    · rcases h1.lo y hy with h4 | h4
      · obtain ⟨x, hx, e⟩ := List.mem_map.1 h4
        exact .inr ⟨x, hx, e⟩
      · omega
  · rintro b (h | ⟨y, hy, rfl⟩)
    · have := hU b h; have := h1.size; omega
    · exact h1.lt hy
  · intro b hlt hk
    rcases hk with hk | hk
    · refine h1.far b hlt fun hx => ?_
      obtain ⟨y, hy, e⟩ := List.mem_map.1 hx
      exact hk (.inr ⟨y, hy, e⟩)
    · exact hK b hk hlt
  · rcases h1.lo x hx with h4 | h4
    · exact hb x.1 hu h4
    · have := hU _ hu; omega
theorem NextE.grow {KO : Objs} {i : Nat} {L : Ents} {cs : List Objs} {W1 W' : World} (h : NextE (ids cs.flatten) W1 (Rel i) W') (hs : SatL L cs) (hO : OwnS R base cs.flatten W1) (hm : m ≤ W1.heap.size) (hU : ∀ b, U b → b < m) (hn : ∀ x ∈ cs.flatten, ¬ U x.1)
    (hK : Holds KO L) (hR : ∀ L', Rel i L' → Holds KO L') : ∃ O', GrowE (fun b => ∃ x ∈ KO, x.1 = b) (setB U cs.flatten) O' W1 W' ∧ invE U m R base Rel i O' W' := by
  obtain ⟨L', h1, h2⟩ := h
  obtain ⟨ds, hd, h1⟩ := h1.conc
  obtain ⟨g, h3, h4, h5⟩ := grow_of (K := fun b => ∃ x ∈ KO, x.1 = b) h1 hO hm hU hn (by
    rintro b ⟨x, hx, rfl⟩ _
    exact (h1.obj x ((hR L' h2).mem hd x hx)).trans (hO.obj x (hK.mem hs x hx)).symm)
  exact ⟨_, g, L', ds, h2, hd, rfl, h3, h4, h5⟩
end
/-- An iterator at work: K is what it reads, bs what it has made. -/
structure ItS (J : Nat → (Nat → Prop) → World → Prop) (K : Objs) (W0 : World) (L : Objs) (j : Nat) (wr : World) : Prop where
  ex : ∃ O, J j O wr ∧ (∀ x ∈ L, ¬ O x.1) ∧ ∀ b, O b → b < wr.heap.size
  sz : W0.heap.size ≤ wr.heap.size
  has : Has (K ++ L) wr
section
variable {J : Nat → (Nat → Prop) → World → Prop} {K : Objs} {W0 wr W' : World} {L L' : Objs} {j : Nat}
theorem ItS.step (hJ : StayO J) (h : ItS J K W0 L j wr) (hO : OwnS ((K ++ L).map (·.1)) wr (K ++ L') W') : ItS J K W0 L' j W' := by
  obtain ⟨O, h1, h2, h3⟩ := h.ex
  have t : Turn (fun b => ¬ O b) wr W' := ⟨hO.os, hO.tape, hO.output, hO.size, fun b hb hn => by
    have hb' : O b := Classical.not_not.1 hn
    by_cases hx : b ∈ (K ++ L).map (·.1)
    · obtain ⟨y, hy, e⟩ := List.mem_map.1 hx
      rcases List.mem_append.1 hy with hy | hy
      · rw [← e]
        exact (hO.obj y (List.mem_append_left _ hy)).trans (h.has.obj y (List.mem_append_left _ hy)).symm
      · exact absurd hb' (by rw [← e]; exact h2 y hy)
    · exact hO.far b hb hx⟩
  refine ⟨⟨O, hJ j O wr W' h1 t, fun x hx hox => ?_, fun b hb => Nat.lt_of_lt_of_le (h3 b hb) hO.size⟩, Nat.le_trans h.sz hO.size, hO.obj, hO.nd⟩
  rcases hO.lo x (List.mem_append_right _ hx) with h4 | h4
  · obtain ⟨y, hy, e⟩ := List.mem_map.1 h4
    rcases List.mem_append.1 hy with hy | hy
    · exact (List.pairwise_append.1 hO.nd).2.2 y hy x hx e
    · exact h2 y hy (by rw [e]; exact hox)
  · have := h3 _ hox; omega
end
end Go.Proofs.Ytckhkagkpldoiaa.E
