/- The findings are the document's; each thing is held by just one: plainly. -/
import Derived.Test.YtdglhppcfdpcaaaTaS
set_option linter.unusedVariables false
set_option linter.unusedSimpArgs false
namespace Go.Proofs.Ytdglhppcfdpcaaa.E
open Go Go.RowKit Go.Shelf
def plc (s : Sn) : Pp := ⟨s.x0, s.x1, s.x2, s.x3⟩
def inP (P : List Pp) (s : Sn) : Bool := P.any (pe s.x0 s.x1 s.x2 s.x3)
def adP (P : List Pp) (s : Sn) : List Pp := bif inP P s then P else P ++ [plc s]
theorem pe_iff {s : Sn} {y : Pp} : pe s.x0 s.x1 s.x2 s.x3 y = true ↔ y = plc s := by
  obtain ⟨y0, y1, y2, y3⟩ := y
  unfold pe plc
  simp only [Bool.and_eq_true, beq_iff_eq, Pp.mk.injEq]
  constructor
  · rintro ⟨h1, h2, h3, h4⟩; exact ⟨h1.symm, h2.symm, h3.symm, h4.symm⟩
  · rintro ⟨h1, h2, h3, h4⟩; exact ⟨h1.symm, h2.symm, h3.symm, h4.symm⟩
theorem inP_iff {P : List Pp} {s : Sn} : inP P s = true ↔ plc s ∈ P := by
  unfold inP
  rw [List.any_eq_true]
  constructor
  · rintro ⟨y, hy, h⟩; rw [pe_iff] at h; rwa [← h]
  · intro h; exact ⟨_, h, pe_iff.2 rfl⟩
theorem ixP_any (P : List Pp) (c0 c1 c2 c3 : Int) : decide (0 ≤ ixP P c0 c1 c2 c3) = P.any (pe c0 c1 c2 c3) := by
  unfold ixP
  cases h : P.findIdx? (pe c0 c1 c2 c3) with
  | some k =>
    obtain ⟨hk, hp, _⟩ := List.findIdx?_eq_some_iff_getElem.1 h
    rw [decide_eq_true (by omega : (0 : Int) ≤ (k : Int))]
    exact (List.any_eq_true.2 ⟨_, List.getElem_mem hk, hp⟩).symm
  | none =>
    have h2 := List.findIdx?_eq_none_iff.1 h
    rw [decide_eq_false (by omega : ¬ (0 : Int) ≤ -1)]
    symm
    rw [List.any_eq_false]
    intro x hx
    rw [h2 x hx]
    decide
theorem plS_step (zs : List Sn) (k : Nat) : plS zs (k + 1) = adP (plS zs k) (zs.getD k zSn) := by
  rw [plS, ixP_any]; rfl
theorem plS_fold (zs : List Sn) : ∀ k, k ≤ zs.length → plS zs k = (zs.take k).foldl adP []
  | 0, _ => rfl
  | k + 1, h => by
    rw [plS_step, plS_fold zs k (by omega), List.take_add_one, List.getElem?_eq_getElem (by omega : k < zs.length), List.getD_eq_getElem?_getD, List.getElem?_eq_getElem (by omega : k < zs.length), List.foldl_append]
    rfl
theorem knP_any (P : List Pp) (s : Sn) (b : Bool) : ∀ j, j ≤ P.length → knP P s b j = (b || (P.take j).any (pe s.x0 s.x1 s.x2 s.x3))
  | 0, _ => by rw [List.take_zero]; simp [knP]
  | j + 1, h => by
    rw [knP, knP_any P s b j (by omega), List.take_add_one, List.getElem?_eq_getElem (by omega : j < P.length), List.any_append, List.getD_eq_getElem?_getD, List.getElem?_eq_getElem (by omega : j < P.length), Bool.or_assoc]
    congr 2
    show (P[j].x0 == s.x0 && (P[j].x1 == s.x1 && (P[j].x2 == s.x2 && P[j].x3 == s.x3))) = (pe s.x0 s.x1 s.x2 s.x3 P[j] || false)
    rw [Bool.or_false, pe, BEq.comm (a := P[j].x0), BEq.comm (a := P[j].x1), BEq.comm (a := P[j].x2), BEq.comm (a := P[j].x3)]
def owN (r c : Int) (s : Sn) : Bool := (s.x0 == r) && (s.x4 == c)
theorem plR_step (xs : List Sn) (r c : Int) (k : Nat) : plR xs r c (k + 1) = bif owN r c (xs.getD k zSn) then adP (plR xs r c k) (xs.getD k zSn) else plR xs r c k := by
  rw [plR, knS, knP_any _ _ _ _ (Nat.le_refl _), List.take_length]
  unfold owN adP inP plc
  cases h1 : ((xs.getD k zSn).x0 == r) <;> cases h2 : ((xs.getD k zSn).x4 == c) <;> simp only [bne, h1, h2, Bool.not_true, Bool.not_false, Bool.true_or, Bool.or_true, Bool.false_or, Bool.or_false, Bool.and_true, Bool.and_false, Bool.true_and, Bool.false_and, cond_true, cond_false]
theorem plR_fold (xs : List Sn) (r c : Int) : ∀ k, k ≤ xs.length → plR xs r c k = ((xs.take k).filter (owN r c)).foldl adP []
  | 0, _ => by rw [plR]; rfl
  | k + 1, h => by
    rw [plR_step, plR_fold xs r c k (by omega), List.take_add_one, List.getElem?_eq_getElem (by omega : k < xs.length), List.getD_eq_getElem?_getD, List.getElem?_eq_getElem (by omega : k < xs.length), List.filter_append, List.foldl_append]
    show (bif owN r c xs[k] then _ else _) = _
    cases h2 : owN r c xs[k] <;> simp [h2]
/-- Sets of places. -/
theorem adP_mem {P : List Pp} {s : Sn} {p : Pp} : p ∈ adP P s ↔ p ∈ P ∨ p = plc s := by
  unfold adP
  cases h : inP P s with
  | true =>
    have h2 := inP_iff.1 h
    exact ⟨.inl, fun h3 => h3.elim id fun h4 => h4 ▸ h2⟩
  | false => simp
theorem fold_mem : ∀ (zs : List Sn) (P : List Pp) {p : Pp}, p ∈ zs.foldl adP P ↔ p ∈ P ∨ ∃ s ∈ zs, p = plc s
  | [], P, p => by simp
  | z :: zs, P, p => by
    rw [List.foldl_cons, fold_mem zs, adP_mem]
    constructor
    · rintro ((h | h) | ⟨s, hs, h⟩)
      · exact .inl h
      · exact .inr ⟨z, List.mem_cons_self, h⟩
      · exact .inr ⟨s, List.mem_cons_of_mem _ hs, h⟩
    · rintro (h | ⟨s, hs, h⟩)
      · exact .inl (.inl h)
      · rcases List.mem_cons.1 hs with rfl | hs
        · exact .inl (.inr h)
        · exact .inr ⟨s, hs, h⟩
theorem fold_pre : ∀ (zs : List Sn) (P : List Pp), P <+: zs.foldl adP P
  | [], P => List.prefix_refl _
  | z :: zs, P => by
    rw [List.foldl_cons]
    refine List.IsPrefix.trans ?_ (fold_pre zs _)
    unfold adP
    cases inP P z with
    | true => exact List.prefix_refl _
    | false => exact List.prefix_append _ _
theorem fold_head {z : Sn} {zs : List Sn} : ((z :: zs).foldl adP []).getD 0 zPp = plc z ∧ 1 ≤ ((z :: zs).foldl adP []).length := by
  rw [List.foldl_cons]
  obtain ⟨t, ht⟩ := fold_pre zs (adP [] z)
  rw [← ht]
  exact ⟨rfl, by rw [List.length_append]; show 1 ≤ 1 + _; omega⟩
/-- The kinds. -/
theorem rb1_kb1 (P : List Pp) : ∀ k, rb1 P (k + 1) = kb1 P k
  | 0 => by show ((true && (_ == _)) && (_ == _)) = true; rw [beq_self_eq_true, beq_self_eq_true]; rfl
  | k + 1 => by
    rw [rb1, rb1_kb1 P k, kb1, show (P.drop 1).getD k zPp = P.getD (k + 1) zPp by rw [List.getD_eq_getElem?_getD, List.getD_eq_getElem?_getD, List.getElem?_drop, Nat.add_comm]]
theorem rb2_kb2 (P : List Pp) : ∀ k, rb2 P (k + 1) = kb2 P k
  | 0 => by show ((true && (_ == _)) && (_ == _)) = true; rw [beq_self_eq_true, beq_self_eq_true]; rfl
  | k + 1 => by
    rw [rb2, rb2_kb2 P k, kb2, show (P.drop 1).getD k zPp = P.getD (k + 1) zPp by rw [List.getD_eq_getElem?_getD, List.getD_eq_getElem?_getD, List.getElem?_drop, Nat.add_comm]]
theorem knd_cases (P : List Pp) (h : 1 ≤ P.length) : (P.length = 1 ∧ knd P = 1) ∨ (P.length ≠ 1 ∧ rb1 P P.length = true ∧ knd P = 2) ∨ (P.length ≠ 1 ∧ rb1 P P.length = false ∧ rb2 P P.length = true ∧ knd P = 3) ∨ (P.length ≠ 1 ∧ rb1 P P.length = false ∧ rb2 P P.length = false ∧ knd P = 4) := by
  obtain ⟨m, hm⟩ : ∃ m, P.length = m + 1 := ⟨P.length - 1, by omega⟩
  unfold knd
  rw [hm, rb1_kb1, rb2_kb2]
  by_cases h1 : m + 1 = 1
  · exact .inl ⟨h1, by rw [decide_eq_true h1]; rfl⟩
  · rw [decide_eq_false h1, show m + 1 - 1 = m from rfl]
    cases h2 : kb1 P m with
    | true => exact .inr (.inl ⟨h1, rfl, rfl⟩)
    | false =>
      cases h3 : kb2 P m with
      | true => exact .inr (.inr (.inl ⟨h1, rfl, rfl, rfl⟩))
      | false => exact .inr (.inr (.inr ⟨h1, rfl, rfl, rfl⟩))
theorem rb1_all {P : List Pp} : ∀ {k : Nat}, rb1 P k = true → ∀ j, j < k → (P.getD j zPp).x1 = (P.getD 0 zPp).x1 ∧ (P.getD j zPp).x2 = (P.getD 0 zPp).x2
  | 0, _, j, h => absurd h (Nat.not_lt_zero j)
  | k + 1, h, j, hj => by
    rw [rb1, Bool.and_eq_true, Bool.and_eq_true] at h
    rcases Nat.lt_or_ge j k with h1 | h1
    · exact rb1_all h.1.1 j h1
    · obtain rfl : j = k := by omega
      exact ⟨eq_of_beq h.1.2, eq_of_beq h.2⟩
theorem rb2_all {P : List Pp} : ∀ {k : Nat}, rb2 P k = true → ∀ j, j < k → (P.getD j zPp).x1 = (P.getD 0 zPp).x1 ∧ (P.getD j zPp).x3 = (P.getD 0 zPp).x3
  | 0, _, j, h => absurd h (Nat.not_lt_zero j)
  | k + 1, h, j, hj => by
    rw [rb2, Bool.and_eq_true, Bool.and_eq_true] at h
    rcases Nat.lt_or_ge j k with h1 | h1
    · exact rb2_all h.1.1 j h1
    · obtain rfl : j = k := by omega
      exact ⟨eq_of_beq h.1.2, eq_of_beq h.2⟩
/-- What was seen may be. -/
structure SnOk (s : Sn) : Prop where
  c0 : 0 ≤ s.x4
  c1 : s.x4 ≤ 35
  r0 : 0 ≤ s.x0
  r1 : s.x0 ≤ 7
theorem kSn_all : ∀ r : Fin 8, ∀ c : Fin 36, kSn (r.val : Int) (c.val : Int) = 256 * (r.val : Int) + (c.val : Int) := by decide
theorem kSn_eq {r c : Int} (h1 : 0 ≤ r) (h2 : r ≤ 7) (h3 : 0 ≤ c) (h4 : c ≤ 35) : kSn r c = 256 * r + c := by
  obtain ⟨a, rfl⟩ := Int.eq_ofNat_of_zero_le h1
  obtain ⟨b, rfl⟩ := Int.eq_ofNat_of_zero_le h3
  exact kSn_all ⟨a, by omega⟩ ⟨b, by omega⟩
theorem SnOk.key {s : Sn} (h : SnOk s) : kS s = 256 * s.x0 + s.x4 := kSn_eq h.r0 h.r1 h.c0 h.c1
theorem SnOk.own {s : Sn} (h : SnOk s) {r c : Int} (h1 : 0 ≤ c) (h2 : c ≤ 35) : owN r c s = (kS s == 256 * r + c) := by
  have := h.c0; have := h.c1
  rw [h.key]
  unfold owN
  by_cases e : s.x0 = r
  · subst e
    rw [beq_self_eq_true, Bool.true_and]
    by_cases e : s.x4 = c
    · subst e; rw [beq_self_eq_true, beq_self_eq_true]
    · rw [beq_false_of_ne e, beq_false_of_ne (by omega)]
  · rw [beq_false_of_ne e, Bool.false_and, beq_false_of_ne (by omega)]
theorem plR_key {xs : List Sn} (hx : ∀ s ∈ xs, SnOk s) {r c : Int} (h1 : 0 ≤ c) (h2 : c ≤ 35) : plR xs r c xs.length = (xs.filter (fun s => kS s == 256 * r + c)).foldl adP [] := by
  rw [plR_fold xs r c _ (Nat.le_refl _), List.take_length, List.filter_congr fun s hs => (hx s hs).own h1 h2]
abbrev gsS (xs : List Sn) : List (Int × List Sn) := So.grp kS (So.srt kS xs)
theorem gs_asc (xs : List Sn) : ∀ d i : Nat, i + (d + 1) < (gsS xs).length → ((gsS xs).getD i (0, [])).1 < ((gsS xs).getD (i + (d + 1)) (0, [])).1
  | 0, i, h => by
    have hi : (gsS xs)[i]? = some (gsS xs)[i] := List.getElem?_eq_getElem (by omega)
    have hj : (gsS xs)[i + 1]? = some (gsS xs)[i + 1] := List.getElem?_eq_getElem h
    have := So.grp_asc zSn (So.srt_up xs) hi hj
    rw [List.getD_eq_getElem?_getD, List.getD_eq_getElem?_getD, hi, hj]
    exact this
  | d + 1, i, h => by
    have h1 := gs_asc xs d i (by omega)
    have hi : (gsS xs)[i + (d + 1)]? = some (gsS xs)[i + (d + 1)] := List.getElem?_eq_getElem (by omega)
    have hj : (gsS xs)[i + (d + 1) + 1]? = some (gsS xs)[i + (d + 1) + 1] := List.getElem?_eq_getElem h
    have := So.grp_asc zSn (So.srt_up xs) hi hj
    refine Int.lt_trans h1 ?_
    rw [List.getD_eq_getElem?_getD, List.getD_eq_getElem?_getD, hi, show i + (d + 1 + 1) = i + (d + 1) + 1 from rfl, hj]
    exact this
theorem gs_lt {xs : List Sn} {i j : Nat} {p q : Int × List Sn} (hi : (gsS xs)[i]? = some p) (hj : (gsS xs)[j]? = some q) (h : i < j) : p.1 < q.1 := by
  have hl := (List.getElem?_eq_some_iff.1 hj).1
  have := gs_asc xs (j - i - 1) i (by omega)
  rw [show i + (j - i - 1 + 1) = j by omega, List.getD_eq_getElem?_getD, List.getD_eq_getElem?_getD, hi, hj] at this
  exact this
/-- How many groups have a lower key. -/
def cnG (gs : List (Int × List Sn)) (K : Int) : Nat := (gs.filter fun g => decide (g.1 < K)).length
theorem cnG_jump {gs : List (Int × List Sn)} {K K' : Int} (h : ∀ g ∈ gs, ¬ (K ≤ g.1 ∧ g.1 < K')) (hK : K ≤ K') : cnG gs K' = cnG gs K := by
  unfold cnG
  rw [List.filter_congr fun g hg => ?_]
  have := h g hg
  exact decide_eq_decide.2 (by omega)
theorem cnG_at {xs : List Sn} {t : Nat} {K : Int} {z : List Sn} (h : (gsS xs)[t]? = some (K, z)) : cnG (gsS xs) K = t ∧ cnG (gsS xs) (K + 1) = t + 1 := by
  have hl := (List.getElem?_eq_some_iff.1 h).1
  have e : gsS xs = (gsS xs).take t ++ (K, z) :: (gsS xs).drop (t + 1) := by
    obtain ⟨hi, e⟩ := List.getElem?_eq_some_iff.1 h
    rw [← e, ← List.drop_eq_getElem_cons hi, List.take_append_drop]
  have a1 : ∀ g ∈ (gsS xs).take t, g.1 < K := by
    intro g hg
    obtain ⟨i, hi, rfl⟩ := List.getElem_of_mem hg
    rw [List.length_take] at hi
    have h1 : (gsS xs)[i]? = some (gsS xs)[i] := List.getElem?_eq_getElem (by omega)
    rw [List.getElem_take]
    exact gs_lt h1 h (by omega)
  have a2 : ∀ g ∈ (gsS xs).drop (t + 1), K < g.1 := by
    intro g hg
    obtain ⟨i, hi, rfl⟩ := List.getElem_of_mem hg
    rw [List.length_drop] at hi
    have h1 : (gsS xs)[t + 1 + i]? = some (gsS xs)[t + 1 + i] := List.getElem?_eq_getElem (by omega)
    rw [List.getElem_drop]
    exact gs_lt h h1 (by omega)
  have f1 : ∀ K', K ≤ K' → ((gsS xs).take t).filter (fun g => decide (g.1 < K')) = (gsS xs).take t := fun K' hK => List.filter_eq_self.2 fun g hg => decide_eq_true (by have := a1 g hg; omega)
  have f2 : ∀ K', K' ≤ K + 1 → ((gsS xs).drop (t + 1)).filter (fun g => decide (g.1 < K')) = [] := fun K' hK => List.filter_eq_nil_iff.2 fun g hg => by have := a2 g hg; rw [decide_eq_false (by omega)]; decide
  have tl : ((gsS xs).take t).length = t := by rw [List.length_take]; omega
  constructor
  · unfold cnG
    rw [e, List.filter_append, List.filter_cons, f1 K (Int.le_refl _), f2 K (by omega), if_neg (by simp), List.append_nil, tl]
  · unfold cnG
    rw [e, List.filter_append, List.filter_cons, f1 (K + 1) (by omega), f2 (K + 1) (Int.le_refl _), if_pos (by simp; omega), List.length_append, tl]
    rfl
theorem gs_z {xs : List Sn} {t : Nat} {K : Int} {z : List Sn} (h : (gsS xs)[t]? = some (K, z)) : z = xs.filter (fun s => kS s == K) ∧ 1 ≤ z.length := ⟨So.grp_srt zSn h, So.grp_pos h⟩
theorem gs_mem {xs : List Sn} {s : Sn} (hs : s ∈ xs) : ∃ (t : Nat) (z : List Sn), (gsS xs)[t]? = some (kS s, z) ∧ s ∈ z := by
  have h1 : s ∈ (gsS xs).flatMap (·.2) := by
    rw [So.grp_flat]
    unfold So.srt
    exact (List.mergeSort_perm _ _).mem_iff.2 hs
  obtain ⟨g, hg, h2⟩ := List.mem_flatMap.1 h1
  obtain ⟨t, ht, rfl⟩ := List.getElem_of_mem hg
  refine ⟨t, (gsS xs)[t].2, ?_, h2⟩
  rw [List.getElem?_eq_getElem ht, (So.grp_all _ _ (List.getElem_mem ht)).2 s h2]
theorem gs_of {xs : List Sn} {g : Int × List Sn} (hg : g ∈ gsS xs) : ∃ s ∈ xs, kS s = g.1 := by
  obtain ⟨t, ht, rfl⟩ := List.getElem_of_mem hg
  have h : (gsS xs)[t]? = some ((gsS xs)[t].1, (gsS xs)[t].2) := List.getElem?_eq_getElem ht
  obtain ⟨h1, h2⟩ := gs_z h
  obtain ⟨s, hs⟩ := List.exists_mem_of_length_pos (by omega : 0 < (gsS xs)[t].2.length)
  rw [h1] at hs
  exact ⟨s, (List.mem_filter.1 hs).1, eq_of_beq (List.mem_filter.1 hs).2⟩
theorem tone6 (xs : List Sn) (r c : Int) : tone_6 xs r c = (plR xs r c xs.length).length := by
  unfold tone_6
  by_cases h : (plR xs r c xs.length).length = 0
  · rw [h]; rfl
  · rw [beq_false_of_ne (by omega : (((plR xs r c xs.length).length : Nat) : Int) ≠ 0), cond_false]
    by_cases h : (plR xs r c xs.length).length = 1
    · rw [h]; rfl
    · rw [beq_false_of_ne (by omega : (((plR xs r c xs.length).length : Nat) : Int) ≠ 1), cond_false]
section
variable {xs : List Sn} (hx : ∀ s ∈ xs, SnOk s) {r c : Int} (c0 : 0 ≤ c) (c1 : c ≤ 35)
include hx c0 c1
theorem fi_none (h : ((tone_6 xs r c : Nat) : Int) == 0) : cnG (gsS xs) (256 * r + (c + 1)) = cnG (gsS xs) (256 * r + c) := by
  refine cnG_jump (fun g hg hK => ?_) (by omega)
  obtain ⟨s, hs, hk⟩ := gs_of hg
  have h0 : (plR xs r c xs.length).length = 0 := by have := eq_of_beq h; rw [tone6] at this; omega
  rw [plR_key hx c0 c1] at h0
  have h2 : plc s ∈ (xs.filter (fun s => kS s == 256 * r + c)).foldl adP [] := (fold_mem _ _).2 (.inr ⟨s, List.mem_filter.2 ⟨hs, beq_iff_eq.2 (by omega)⟩, rfl⟩)
  rw [List.length_eq_zero_iff.1 h0] at h2
  cases h2
theorem fi_some (h : (((tone_6 xs r c : Nat) : Int) == 0) = false) : ∃ z, (gsS xs)[cnG (gsS xs) (256 * r + c)]? = some (256 * r + c, z) ∧ cnG (gsS xs) (256 * r + (c + 1)) = cnG (gsS xs) (256 * r + c) + 1 := by
  have h0 : (plR xs r c xs.length).length ≠ 0 := by have := ne_of_beq_false h; rw [tone6] at this; omega
  rw [plR_key hx c0 c1] at h0
  obtain ⟨p, hp⟩ := List.exists_mem_of_length_pos (Nat.pos_of_ne_zero h0)
  rcases (fold_mem _ _).1 hp with h1 | ⟨s, hs, _⟩
  · cases h1
  · have hk := eq_of_beq (List.mem_filter.1 hs).2
    obtain ⟨t, z, ht, _⟩ := gs_mem (List.mem_filter.1 hs).1
    rw [hk] at ht
    obtain ⟨e1, e2⟩ := cnG_at ht
    rw [show 256 * r + (c + 1) = 256 * r + c + 1 by omega, e1, e2]
    exact ⟨z, ht, rfl⟩
theorem fi_want {z : List Sn} {t : Nat} (h : (gsS xs)[t]? = some (256 * r + c, z)) : fOf z = ⟨tone_0 xs r c, tone_1 xs r c, tone_2 xs r c, tone_3 xs r c, tone_4 xs r c, tone_5 xs r c, ((tone_6 xs r c : Nat) : Int)⟩ := by
  obtain ⟨hz, hl⟩ := gs_z h
  have hP : plS z z.length = plR xs r c xs.length := by rw [plS_fold z _ (Nat.le_refl _), List.take_length, plR_key hx c0 c1, hz]
  obtain ⟨s, z', rfl⟩ : ∃ s z', z = s :: z' := by
    cases z with
    | nil => simp at hl
    | cons s z' => exact ⟨s, z', rfl⟩
  have hs : s ∈ xs.filter (fun s => kS s == 256 * r + c) := by rw [← hz]; exact List.mem_cons_self
  have hs1 := hx s (List.mem_filter.1 hs).1
  have hk := eq_of_beq (List.mem_filter.1 hs).2
  rw [hs1.key] at hk
  have e0 : s.x0 = r := by have := hs1.c0; have := hs1.c1; omega
  have e4 : s.x4 = c := by omega
  obtain ⟨hh, hn⟩ := fold_head (z := s) (zs := z')
  have hF : plS (s :: z') (s :: z').length = (s :: z').foldl adP [] := by rw [plS_fold _ _ (Nat.le_refl _), List.take_length]
  rw [← hF, hP] at hh hn
  have hr : ((plR xs r c xs.length).getD 0 zPp).x0 = r := by rw [hh]; exact e0
  unfold fOf
  rw [hP, tone6]
  have b0 : (((plR xs r c xs.length).length : Nat) : Int) ≠ 0 := by omega
  unfold tone_0 tone_1 tone_2 tone_3 tone_4 tone_5 tbare_0 tbare_1 tbare_2
  rw [beq_false_of_ne b0, hr, show ((s :: z').getD 0 zSn).x4 = c from e4]
  simp only [cond_false]
  rcases knd_cases _ hn with ⟨h1, h2⟩ | ⟨h1, h3, h2⟩ | ⟨h1, h3, h4, h2⟩ | ⟨h1, h3, h4, h2⟩
  · rw [h2, h1]; rfl
  · have b1 : (((plR xs r c xs.length).length : Nat) : Int) ≠ 1 := by omega
    rw [h2, h3, beq_false_of_ne b1]; rfl
  · have b1 : (((plR xs r c xs.length).length : Nat) : Int) ≠ 1 := by omega
    rw [h2, h3, h4, beq_false_of_ne b1]; rfl
  · have b1 : (((plR xs r c xs.length).length : Nat) : Int) ≠ 1 := by omega
    rw [h2, h3, h4, beq_false_of_ne b1]; rfl
end
theorem cn_row {xs : List Sn} (hx : ∀ s ∈ xs, SnOk s) (r : Int) : cnG (gsS xs) (256 * (r + 1)) = cnG (gsS xs) (256 * r + 36) := by
  refine cnG_jump (fun g hg hK => ?_) (by omega)
  obtain ⟨s, hs, hk⟩ := gs_of hg
  have h1 := hx s hs
  rw [h1.key] at hk
  have := h1.c0; have := h1.c1
  omega
theorem cn_0 {xs : List Sn} (hx : ∀ s ∈ xs, SnOk s) : cnG (gsS xs) 0 = 0 := by
  unfold cnG
  rw [List.filter_eq_nil_iff.2 fun g hg => ?_]
  · rfl
  · obtain ⟨s, hs, hk⟩ := gs_of hg
    have h1 := hx s hs
    rw [h1.key] at hk
    have := h1.c0; have := h1.r0
    rw [decide_eq_false (by omega)]; decide
theorem cn_8 {xs : List Sn} (hx : ∀ s ∈ xs, SnOk s) : cnG (gsS xs) 2048 = (gsS xs).length := by
  unfold cnG
  rw [List.filter_eq_self.2 fun g hg => ?_]
  obtain ⟨s, hs, hk⟩ := gs_of hg
  have h1 := hx s hs
  rw [h1.key] at hk
  have := h1.c1; have := h1.r1
  exact decide_eq_true (by omega)
theorem fnS_map (gs : List (Int × List Sn)) : ∀ n, n ≤ gs.length → fnS gs n = (gs.take n).map fun g => fOf g.2
  | 0, _ => rfl
  | n + 1, h => by
    rw [fnS, fnS_map gs n (by omega), List.take_add_one, List.getElem?_eq_getElem (by omega : n < gs.length), List.map_append, List.getD_eq_getElem?_getD, List.getElem?_eq_getElem (by omega : n < gs.length)]
    rfl
abbrev gotS (xs : List Sn) : List Fg := fnS (gsS xs) (gsS xs).length
theorem got_map (xs : List Sn) : gotS xs = (gsS xs).map fun g => fOf g.2 := by
  unfold gotS
  rw [fnS_map _ _ (Nat.le_refl _), List.take_length]
theorem got_get {xs : List Sn} {t : Nat} {p : Int × List Sn} (h : (gsS xs)[t]? = some p) : t < (gotS xs).length ∧ (gotS xs).getD t zFg = fOf p.2 := by
  rw [got_map, List.length_map, List.getD_eq_getElem?_getD, List.getElem?_map, h]
  exact ⟨(List.getElem?_eq_some_iff.1 h).1, rfl⟩
/-- Does a finding hold a thing? -/
def hoB (a : Sn) (f : Fg) : Bool := ((f.x5 == a.x4) && (f.x1 == a.x0)) && ((f.x1 == a.x0) && ((f.x2 == (tbare_0 f.x0 a.x1)) && ((f.x3 == (tbare_1 f.x0 a.x2)) && (f.x4 == (tbare_2 f.x0 a.x3)))))
theorem ho_iff {xs : List Sn} (hx : ∀ s ∈ xs, SnOk s) {a : Sn} (ha : a ∈ xs) {g : Int × List Sn} (hg : g ∈ gsS xs) : hoB a (fOf g.2) = (g.1 == kS a) := by
  obtain ⟨t, ht, hgt⟩ := List.getElem_of_mem hg
  have h : (gsS xs)[t]? = some (g.1, g.2) := by rw [List.getElem?_eq_getElem ht, hgt]
  obtain ⟨hz, hl⟩ := gs_z h
  obtain ⟨K, z⟩ := g
  simp only at hz hl h ⊢
  obtain ⟨s, z', rfl⟩ : ∃ s z', z = s :: z' := by
    cases z with
    | nil => simp at hl
    | cons s z' => exact ⟨s, z', rfl⟩
  have hs : s ∈ xs.filter (fun s => kS s == K) := by rw [← hz]; exact List.mem_cons_self
  have hs1 := hx s (List.mem_filter.1 hs).1
  have hk := eq_of_beq (List.mem_filter.1 hs).2
  have ha1 := hx a ha
  obtain ⟨hh, hn⟩ := fold_head (z := s) (zs := z')
  have hF : plS (s :: z') (s :: z').length = (s :: z').foldl adP [] := by rw [plS_fold _ _ (Nat.le_refl _), List.take_length]
  rw [← hF] at hh hn
  have hks := hs1.key
  have hka := ha1.key
  have := hs1.c0; have := hs1.c1; have := ha1.c0; have := ha1.c1
  by_cases e : K = kS a
  · rw [beq_iff_eq.2 e]
    have e4 : s.x4 = a.x4 := by omega
    have e0 : s.x0 = a.x0 := by omega
    have hm : plc a ∈ plS (s :: z') (s :: z').length := by
      rw [hF]
      refine (fold_mem _ _).2 (.inr ⟨a, ?_, rfl⟩)
      rw [hz]
      exact List.mem_filter.2 ⟨ha, beq_iff_eq.2 e.symm⟩
    unfold hoB fOf
    simp only
    rw [hh, show ((s :: z').getD 0 zSn).x4 = a.x4 from e4, show (plc s).x0 = a.x0 from e0]
    simp only [beq_self_eq_true, Bool.true_and]
    generalize plS (s :: z') (s :: z').length = P at *
    obtain ⟨j, hj, hja⟩ := List.getElem_of_mem hm
    have hj2 : P.getD j zPp = plc a := by rw [List.getD_eq_getElem?_getD, List.getElem?_eq_getElem hj, hja]; rfl
    rcases knd_cases P hn with ⟨h1, h2⟩ | ⟨h1, h3, h2⟩ | ⟨h1, h3, h4, h2⟩ | ⟨h1, h3, h4, h2⟩
    · obtain rfl : j = 0 := by omega
      rw [hh] at hj2
      have q1 : (plc s).x1 = a.x1 := by rw [hj2]; rfl
      have q2 : (plc s).x2 = a.x2 := by rw [hj2]; rfl
      have q3 : (plc s).x3 = a.x3 := by rw [hj2]; rfl
      rw [h2, q1, q2, q3]
      unfold tbare_0 tbare_1 tbare_2
      simp
    · obtain ⟨p1, p2⟩ := rb1_all h3 j hj
      rw [hj2, hh] at p1 p2
      rw [h2, ← p1, ← p2]
      unfold tbare_0 tbare_1 tbare_2 plc
      simp
    · obtain ⟨p1, p2⟩ := rb2_all h4 j hj
      rw [hj2, hh] at p1 p2
      rw [h2, ← p1, ← p2]
      unfold tbare_0 tbare_1 tbare_2 plc
      simp
    · rw [h2]
      unfold tbare_0 tbare_1 tbare_2
      simp
  · rw [beq_false_of_ne e]
    unfold hoB fOf
    simp only
    rw [hh, show ((s :: z').getD 0 zSn).x4 = s.x4 from rfl, show (plc s).x0 = s.x0 from rfl]
    by_cases e4 : s.x4 = a.x4
    · rw [beq_false_of_ne (show s.x0 ≠ a.x0 by omega), Bool.and_false, Bool.false_and]
    · rw [beq_false_of_ne e4, Bool.false_and, Bool.false_and]
/-- How many of the first findings hold a thing. -/
def hcF (got : List Fg) (a : Sn) (k : Nat) : Nat := ((got.take k).filter (hoB a)).length
section
variable {got : List Fg} {a : Sn} {k : Nat}
theorem hcF_0 : hcF got a 0 = 0 := rfl
theorem hcF_take (hk : k < got.length) : got.take (k + 1) = got.take k ++ [got.getD k zFg] := by
  rw [List.take_add_one, List.getElem?_eq_getElem hk, List.getD_eq_getElem?_getD, List.getElem?_eq_getElem hk]; rfl
theorem hcF_t (hk : k < got.length) (h : hoB a (got.getD k zFg) = true) : hcF got a (k + 1) = hcF got a k + 1 := by
  unfold hcF
  rw [hcF_take hk, List.filter_append, List.length_append, List.filter_cons_of_pos h]
  rfl
theorem hcF_f (hk : k < got.length) (h : hoB a (got.getD k zFg) = false) : hcF got a (k + 1) = hcF got a k := by
  unfold hcF
  rw [hcF_take hk, List.filter_append, List.length_append, List.filter_cons_of_neg (by rw [h]; decide)]
  rfl
theorem hcF_le : hcF got a k ≤ k := by
  unfold hcF
  exact Nat.le_trans (List.length_filter_le _ _) (by rw [List.length_take]; omega)
end
theorem gs_one {xs : List Sn} {t : Nat} {K : Int} {z : List Sn} (h : (gsS xs)[t]? = some (K, z)) : ((gsS xs).filter fun g => g.1 == K).length = 1 := by
  have e : gsS xs = (gsS xs).take t ++ (K, z) :: (gsS xs).drop (t + 1) := by
    obtain ⟨hi, e⟩ := List.getElem?_eq_some_iff.1 h
    rw [← e, ← List.drop_eq_getElem_cons hi, List.take_append_drop]
  have a1 : ∀ g ∈ (gsS xs).take t, ¬ (g.1 == K) = true := by
    intro g hg
    obtain ⟨i, hi, rfl⟩ := List.getElem_of_mem hg
    rw [List.length_take] at hi
    have h1 : (gsS xs)[i]? = some (gsS xs)[i] := List.getElem?_eq_getElem (by omega)
    have := gs_lt h1 h (by omega)
    rw [List.getElem_take, beq_iff_eq]
    simp only at this ⊢
    omega
  have a2 : ∀ g ∈ (gsS xs).drop (t + 1), ¬ (g.1 == K) = true := by
    intro g hg
    obtain ⟨i, hi, rfl⟩ := List.getElem_of_mem hg
    rw [List.length_drop] at hi
    have h1 : (gsS xs)[t + 1 + i]? = some (gsS xs)[t + 1 + i] := List.getElem?_eq_getElem (by omega)
    have := gs_lt h h1 (by omega)
    rw [List.getElem_drop, beq_iff_eq]
    simp only at this ⊢
    omega
  rw [e, List.filter_append, List.filter_cons_of_pos (by simp), List.filter_eq_nil_iff.2 a1, List.filter_eq_nil_iff.2 a2]
  rfl
theorem hcF_one {xs : List Sn} (hx : ∀ s ∈ xs, SnOk s) {a : Sn} (ha : a ∈ xs) : hcF (gotS xs) a (gotS xs).length = 1 := by
  unfold hcF
  rw [List.take_length, got_map, List.filter_map, List.length_map]
  show ((gsS xs).filter fun g => hoB a (fOf g.2)).length = 1
  rw [List.filter_congr (fun g hg => (ho_iff hx ha hg))]
  obtain ⟨t, z, h, _⟩ := gs_mem ha
  exact gs_one h
end Go.Proofs.Ytdglhppcfdpcaaa.E
