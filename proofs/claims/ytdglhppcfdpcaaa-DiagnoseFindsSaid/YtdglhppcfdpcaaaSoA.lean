/- Stable sorting, plainly. -/
import Derived.Test.YtdglhppcfdpcaaaEt
namespace Go.Proofs.Ytdglhppcfdpcaaa.So
set_option linter.unusedVariables false
section
variable {α : Type} {key : α → Int}
/-- The same things, those of one key in the same order. -/
def St (key : α → Int) (xs ys : List α) : Prop := ∀ k, ys.filter (fun a => key a == k) = xs.filter (fun a => key a == k)
def Up (key : α → Int) (xs : List α) : Prop := xs.Pairwise fun a b => key a ≤ key b
theorem St.refl (xs : List α) : St key xs xs := fun _ => rfl
theorem St.trans {xs ys zs : List α} (h : St key xs ys) (h' : St key ys zs) : St key xs zs := fun k => (h' k).trans (h k)
theorem St.app {xs ys us vs : List α} (h : St key xs ys) (h' : St key us vs) : St key (xs ++ us) (ys ++ vs) := fun k => by rw [List.filter_append, List.filter_append, h k, h' k]
theorem filter_none {xs : List α} {k : Int} (h : ∀ a ∈ xs, key a ≠ k) : xs.filter (fun a => key a == k) = [] := by
  rw [List.filter_eq_nil_iff]
  intro a ha
  simpa using h a ha
theorem St.swap {xs ys : List α} (h : ∀ a ∈ xs, ∀ b ∈ ys, key a ≠ key b) : St key (xs ++ ys) (ys ++ xs) := fun k => by
  rw [List.filter_append, List.filter_append]
  by_cases hx : ∃ a ∈ xs, key a = k
  · obtain ⟨a, ha, rfl⟩ := hx
    rw [filter_none (xs := ys) fun b hb e => h a ha b hb e.symm]
    simp
  · rw [filter_none (xs := xs) fun a ha e => hx ⟨a, ha, e⟩]
    simp
theorem St.mem {xs ys : List α} (h : St key xs ys) {a : α} (ha : a ∈ ys) : a ∈ xs := by
  have h1 : a ∈ ys.filter (fun b => key b == key a) := List.mem_filter.2 ⟨ha, by simp⟩
  rw [h (key a)] at h1
  exact (List.mem_filter.1 h1).1
theorem St.symm {xs ys : List α} (h : St key xs ys) : St key ys xs := fun k => (h k).symm
/-- Two such lists that rise are one. -/
theorem St.uniq : ∀ {xs ys : List α}, St key xs ys → Up key xs → Up key ys → xs = ys
  | [], [], _, _, _ => rfl
  | [], y :: ys, h, _, _ => by have := h.mem (List.mem_cons_self ..); simp at this
  | x :: xs, [], h, _, _ => by have := h.symm.mem (List.mem_cons_self ..); simp at this
  | x :: xs, y :: ys, h, hx, hy => by
    have h1 : key x ≤ key y := by
      have := h.mem (List.mem_cons_self .. : y ∈ y :: ys)
      rcases List.mem_cons.1 this with e | e
      · rw [e]; exact Int.le_refl _
      · exact (List.pairwise_cons.1 hx).1 y e
    have h2 : key y ≤ key x := by
      have := h.symm.mem (List.mem_cons_self .. : x ∈ x :: xs)
      rcases List.mem_cons.1 this with e | e
      · rw [e]; exact Int.le_refl _
      · exact (List.pairwise_cons.1 hy).1 x e
    have he : key x = key y := by omega
    have h3 := h (key x)
    rw [List.filter_cons_of_pos (by simp [he]), List.filter_cons_of_pos (by simp)] at h3
    obtain ⟨rfl, h4⟩ := List.cons.inj h3
    have : St key xs ys := fun k => by
      have h5 := h k
      rw [List.filter_cons, List.filter_cons] at h5
      split at h5
      · exact (List.cons.inj h5).2
      · exact h5
    rw [this.uniq (List.pairwise_cons.1 hx).2 (List.pairwise_cons.1 hy).2]
/-- Sorted, those of one key in their order. -/
def srt (key : α → Int) (xs : List α) : List α := xs.mergeSort fun a b => decide (key a ≤ key b)
theorem srt_up (xs : List α) : Up key (srt key xs) := by
  have := List.pairwise_mergeSort (le := fun a b => decide (key a ≤ key b)) (fun a b c h1 h2 => by simp only [decide_eq_true_eq] at *; omega) (fun a b => by simp only [Bool.or_eq_true, decide_eq_true_eq]; omega) xs
  unfold Up srt
  exact this.imp fun h => of_decide_eq_true h
theorem srt_st (xs : List α) : St key xs (srt key xs) := fun k => by
  have hp : (srt key xs).Perm xs := List.mergeSort_perm xs _
  have hs : (xs.filter fun a => key a == k).Sublist (srt key xs) := by
    refine List.sublist_mergeSort (fun a b c h1 h2 => by simp only [decide_eq_true_eq] at *; omega) (fun a b => by simp only [Bool.or_eq_true, decide_eq_true_eq]; omega) ?_ List.filter_sublist
    rw [List.pairwise_filter]
    refine List.pairwise_of_forall fun a b => ?_
    intro ha hb
    simp only [beq_iff_eq] at ha hb
    simp only [decide_eq_true_eq]
    omega
  have h2 := hs.filter (fun a => key a == k)
  rw [List.filter_filter] at h2
  simp only [Bool.and_self] at h2
  exact (h2.eq_of_length (by rw [(hp.filter _).length_eq])).symm
theorem srt_eq {xs ys : List α} (h : St key xs ys) (hu : Up key ys) : ys = srt key xs := (h.symm.trans (srt_st xs)).uniq hu (srt_up xs)
theorem srt_len (xs : List α) : (srt key xs).length = xs.length := List.length_mergeSort xs
/-- A part of a list, sorted. -/
def seg (ys : List α) (a b : Nat) : List α := (ys.take b).drop a
def sg (key : α → Int) (ys : List α) (a b : Nat) : List α := ys.take a ++ srt key (seg ys a b) ++ ys.drop b
theorem seg_len {ys : List α} {a b : Nat} (hb : b ≤ ys.length) : (seg ys a b).length = b - a := by unfold seg; rw [List.length_drop, List.length_take]; omega
theorem seg_split {ys : List α} {a b c : Nat} (h1 : a ≤ b) (h2 : b ≤ c) : seg ys a c = seg ys a b ++ seg ys b c := by
  unfold seg
  have h : ys.take c = ys.take b ++ (ys.take c).drop b := by
    have := (List.take_append_drop b (ys.take c)).symm
    rwa [List.take_take, Nat.min_eq_left h2] at this
  conv => lhs; rw [h]
  by_cases hb : b ≤ ys.length
  · rw [List.drop_append_of_le_length (by rw [List.length_take]; omega)]
  · have e1 : ys.take b = ys := List.take_of_length_le (by omega)
    have e2 : ys.take c = ys := List.take_of_length_le (by omega)
    rw [e1, e2, List.drop_of_length_le (show ys.length ≤ b by omega), List.append_nil, List.append_nil]
theorem whole {ys : List α} {a b : Nat} (h : a ≤ b) : ys = ys.take a ++ seg ys a b ++ ys.drop b := by
  have h1 : seg ys 0 b = seg ys 0 a ++ seg ys a b := seg_split (Nat.zero_le _) h
  have e : ∀ n, seg ys 0 n = ys.take n := fun n => by unfold seg; rw [List.drop_zero]
  rw [e, e] at h1
  rw [← h1, List.take_append_drop]
theorem sg_len (ys : List α) {a b : Nat} (h : a ≤ b) (hb : b ≤ ys.length) : (sg key ys a b).length = ys.length := by
  unfold sg
  rw [List.length_append, List.length_append, srt_len, seg_len hb, List.length_take, List.length_drop]; omega
/-- Put together of parts. -/
theorem take_app3 {P M S : List α} : (P ++ M ++ S).take P.length = P := by simp
theorem seg_app3 {P M S : List α} : seg (P ++ M ++ S) P.length (P.length + M.length) = M := by
  unfold seg
  rw [show P.length + M.length = (P ++ M).length by simp, List.take_left', List.drop_left']
  · rfl
  · rfl
theorem drop_app3 {P M S : List α} : (P ++ M ++ S).drop (P.length + M.length) = S := by
  rw [show P.length + M.length = (P ++ M).length by simp, List.drop_left']; rfl
theorem sg_of {P M M' S : List α} (h : St key M M') (hu : Up key M') : P ++ M' ++ S = sg key (P ++ M ++ S) P.length (P.length + M.length) := by
  unfold sg
  rw [take_app3, seg_app3, drop_app3, ← srt_eq h hu]
end
section
variable {α : Type} {key : α → Int}
theorem getD_some {ys : List α} {d : α} {i : Nat} (h : i < ys.length) : ys[i]? = some (ys.getD i d) := by
  rw [List.getD_eq_getElem?_getD, List.getElem?_eq_getElem h]; rfl
/-- Two blocks, changed one for the other. -/
def swR (d : α) (ys : List α) (a b : Nat) : Nat → List α
  | 0 => ys
  | k + 1 => ((swR d ys a b k).set (a + k) ((swR d ys a b k).getD (b + k) d)).set (b + k) ((swR d ys a b k).getD (a + k) d)
theorem swR_len (d : α) (ys : List α) (a b : Nat) : ∀ k, (swR d ys a b k).length = ys.length
  | 0 => rfl
  | k + 1 => by unfold swR; rw [List.length_set, List.length_set, swR_len d ys a b k]
def swX (a b k p : Nat) : Nat := if a ≤ p ∧ p < a + k then b + (p - a) else if b ≤ p ∧ p < b + k then a + (p - b) else p
theorem swR_get {d : α} {ys : List α} {a b n : Nat} (h1 : a + n ≤ b) (h2 : b + n ≤ ys.length) (p : Nat) : ∀ {k : Nat}, k ≤ n → (swR d ys a b k)[p]? = ys[swX a b k p]?
  | 0, _ => by
    unfold swR swX
    rw [if_neg (by omega), if_neg (by omega)]
  | k + 1, hk => by
    have ih := fun q => swR_get h1 h2 q (k := k) (by omega) (d := d)
    have hl := swR_len d ys a b k
    unfold swR
    rw [List.getElem?_set, List.getElem?_set, List.length_set, hl]
    by_cases e1 : b + k = p
    · rw [if_pos e1, if_pos (by omega)]
      have := ih (a + k)
      rw [getD_some (d := d) (by omega)] at this
      rw [this]
      congr 1
      unfold swX
      rw [if_neg (by omega), if_neg (by omega), if_neg (by omega), if_pos (by omega)]
      omega
    · rw [if_neg e1]
      by_cases e2 : a + k = p
      · rw [if_pos e2, if_pos (by omega)]
        have := ih (b + k)
        rw [getD_some (d := d) (by omega)] at this
        rw [this]
        congr 1
        unfold swX
        rw [if_neg (by omega), if_neg (by omega), if_pos (by omega)]
        omega
      · rw [if_neg e2, ih]
        congr 1
        unfold swX
        repeat' split
        all_goals omega
/-- A rotation of [a, b) at m. -/
def rotL (ys : List α) (a m b : Nat) : List α := ys.take a ++ seg ys m b ++ seg ys a m ++ ys.drop b
def rotX (a m b p : Nat) : Nat := if p < a then p else if p < a + (b - m) then m + (p - a) else if p < b then a + (p - (a + (b - m))) else p
theorem rotL_len {ys : List α} {a m b : Nat} (h1 : a ≤ m) (h2 : m ≤ b) (h3 : b ≤ ys.length) : (rotL ys a m b).length = ys.length := by
  unfold rotL
  rw [List.length_append, List.length_append, List.length_append, seg_len h3, seg_len (by omega), List.length_take, List.length_drop]; omega
theorem seg_get {ys : List α} {a b p : Nat} (h : a + p < b) : (seg ys a b)[p]? = ys[a + p]? := by
  unfold seg
  rw [List.getElem?_drop, List.getElem?_take_of_lt h]
theorem rotL_get {ys : List α} {a m b : Nat} (h1 : a ≤ m) (h2 : m ≤ b) (h3 : b ≤ ys.length) (p : Nat) : (rotL ys a m b)[p]? = ys[rotX a m b p]? := by
  have l1 : (ys.take a).length = a := by rw [List.length_take]; omega
  have l2 : (seg ys m b).length = b - m := seg_len h3
  have l3 : (seg ys a m).length = m - a := seg_len (by omega)
  unfold rotL rotX
  by_cases c1 : p < a
  · rw [if_pos c1, List.getElem?_append_left (by simp only [List.length_append, l1]; omega), List.getElem?_append_left (by simp only [List.length_append, l1]; omega), List.getElem?_append_left (by omega), List.getElem?_take_of_lt c1]
  · rw [if_neg c1]
    by_cases c2 : p < a + (b - m)
    · rw [if_pos c2, List.getElem?_append_left (by simp only [List.length_append, l1, l2]; omega), List.getElem?_append_left (by simp only [List.length_append, l1, l2]; omega), List.getElem?_append_right (by omega), l1, seg_get (by omega)]
    · rw [if_neg c2]
      by_cases c3 : p < b
      · rw [if_pos c3, List.getElem?_append_left (by simp only [List.length_append, l1, l2, l3]; omega), List.getElem?_append_right (by simp only [List.length_append, l1, l2]; omega), List.length_append, l1, l2, seg_get (by omega)]
      · rw [if_neg c3, List.getElem?_append_right (by simp only [List.length_append, l1, l2, l3]; omega), List.getElem?_drop]
        congr 1
        simp only [List.length_append, l1, l2, l3]; omega
/-- A round of the rotation. -/
theorem rot_gt {d : α} {zs : List α} {m i j : Nat} (hi : i ≤ m) (hj : m + j ≤ zs.length) (h : j < i) : rotL (swR d zs (m - i) m j) (m - (i - j)) m (m + j) = rotL zs (m - i) m (m + j) := by
  refine List.ext_getElem? fun p => ?_
  rw [rotL_get (by omega) (by omega) (by rw [swR_len]; exact hj), swR_get (n := j) (by omega) hj _ (Nat.le_refl _), rotL_get (by omega) (by omega) hj]
  congr 1
  unfold rotX swX
  repeat' split
  all_goals omega
theorem rot_lt {d : α} {zs : List α} {m i j : Nat} (hi : i ≤ m) (hj : m + j ≤ zs.length) (h : i < j) : rotL (swR d zs (m - i) (m + j - i) i) (m - i) m (m + (j - i)) = rotL zs (m - i) m (m + j) := by
  refine List.ext_getElem? fun p => ?_
  rw [rotL_get (by omega) (by omega) (by rw [swR_len]; omega), swR_get (n := i) (by omega) (by omega) _ (Nat.le_refl _), rotL_get (by omega) (by omega) hj]
  congr 1
  unfold rotX swX
  repeat' split
  all_goals omega
theorem rot_eq {d : α} {zs : List α} {m i : Nat} (hi : i ≤ m) (hj : m + i ≤ zs.length) : swR d zs (m - i) m i = rotL zs (m - i) m (m + i) := by
  refine List.ext_getElem? fun p => ?_
  rw [swR_get (n := i) (by omega) hj _ (Nat.le_refl _), rotL_get (by omega) (by omega) hj]
  congr 1
  unfold rotX swX
  repeat' split
  all_goals omega
end
section
variable {α : Type} {key : α → Int}
theorem getD_get {ys : List α} {d : α} {i j : Nat} {zs : List α} (h : zs[i]? = ys[j]?) : zs.getD i d = ys.getD j d := by rw [List.getD_eq_getElem?_getD, List.getD_eq_getElem?_getD, h]
/-- A thing goes down by t places. -/
def mvL (d : α) (ys : List α) (i : Nat) : Nat → List α
  | 0 => ys
  | t + 1 => ((mvL d ys i t).set (i - t) ((mvL d ys i t).getD (i - t - 1) d)).set (i - t - 1) ((mvL d ys i t).getD (i - t) d)
theorem mvL_len (d : α) (ys : List α) (i : Nat) : ∀ t, (mvL d ys i t).length = ys.length
  | 0 => rfl
  | t + 1 => by unfold mvL; rw [List.length_set, List.length_set, mvL_len d ys i t]
def mvX (i t p : Nat) : Nat := if p < i - t ∨ i < p then p else if p = i - t then i else p - 1
theorem mvL_get {d : α} {ys : List α} {i : Nat} (hi : i < ys.length) : ∀ {t : Nat}, t ≤ i → ∀ p, (mvL d ys i t)[p]? = ys[mvX i t p]?
  | 0, _, p => by
    unfold mvL mvX
    congr 1
    repeat' split
    all_goals omega
  | t + 1, ht, p => by
    have ih := mvL_get hi (t := t) (by omega) (d := d)
    have hl := mvL_len d ys i t
    unfold mvL
    rw [List.getElem?_set, List.getElem?_set, List.length_set, hl]
    by_cases e1 : i - t - 1 = p
    · rw [if_pos e1, if_pos (by omega)]
      have := ih (i - t)
      rw [getD_some (d := d) (by omega)] at this
      rw [this]
      congr 1
      unfold mvX
      repeat' split
      all_goals omega
    · rw [if_neg e1]
      by_cases e2 : i - t = p
      · rw [if_pos e2, if_pos (by omega)]
        have := ih (i - t - 1)
        rw [getD_some (d := d) (by omega)] at this
        rw [this]
        congr 1
        unfold mvX
        repeat' split
        all_goals omega
      · rw [if_neg e2, ih]
        congr 1
        unfold mvX
        repeat' split
        all_goals omega
theorem seg_mem {ys : List α} {d : α} {a b : Nat} {x : α} (h : x ∈ seg ys a b) : ∃ p, a ≤ p ∧ p < b ∧ p < ys.length ∧ x = ys.getD p d := by
  obtain ⟨i, hi, e⟩ := List.getElem_of_mem h
  have hl : a + i < b ∧ a + i < ys.length := by unfold seg at hi; rw [List.length_drop, List.length_take] at hi; omega
  refine ⟨a + i, by omega, hl.1, hl.2, ?_⟩
  have h1 : (seg ys a b)[i]? = some x := by rw [List.getElem?_eq_getElem hi, e]
  rw [seg_get hl.1, getD_some (d := d) hl.2] at h1
  exact (Option.some.inj h1).symm
theorem seg_ext {ys zs : List α} {a b : Nat} (hl : ys.length = zs.length) (h : ∀ p, a ≤ p → p < b → ys[p]? = zs[p]?) : seg ys a b = seg zs a b := by
  refine List.ext_getElem? fun i => ?_
  by_cases hi : a + i < b
  · rw [seg_get hi, seg_get hi]; exact h _ (by omega) hi
  · have e : ∀ us : List α, (seg us a b)[i]? = none := fun us => by
      rw [List.getElem?_eq_none_iff]; unfold seg; rw [List.length_drop, List.length_take]; omega
    rw [e, e]
theorem seg_one {ys : List α} {d : α} {a : Nat} (h : a < ys.length) : seg ys a (a + 1) = [ys.getD a d] := by
  refine List.ext_getElem? fun i => ?_
  by_cases hi : i = 0
  · subst hi
    rw [seg_get (by omega), Nat.add_zero, getD_some (d := d) h]; rfl
  · have e : (seg ys a (a + 1))[i]? = none := by rw [List.getElem?_eq_none_iff]; unfold seg; rw [List.length_drop, List.length_take]; omega
    rw [e]
    rw [List.getElem?_eq_none_iff.2 (by simp; omega)]
theorem up_seg {ys : List α} {d : α} {a b : Nat} (hb : b ≤ ys.length) : Up key (seg ys a b) ↔ ∀ p q, a ≤ p → p < q → q < b → key (ys.getD p d) ≤ key (ys.getD q d) := by
  unfold Up
  rw [List.pairwise_iff_getElem]
  have hl := seg_len (a := a) hb
  have hg : ∀ i (h : i < (seg ys a b).length), (seg ys a b)[i] = ys.getD (a + i) d := fun i h => by
    have h1 : (seg ys a b)[i]? = some _ := List.getElem?_eq_getElem h
    rw [seg_get (by omega), getD_some (d := d) (by omega)] at h1
    exact (Option.some.inj h1).symm
  constructor
  · intro h p q h1 h2 h3
    have := h (p - a) (q - a) (by omega) (by omega) (by omega)
    rw [hg, hg, show a + (p - a) = p by omega, show a + (q - a) = q by omega] at this
    exact this
  · intro h i j hi hj hij
    rw [hg, hg]
    exact h _ _ (by omega) (by omega) (by omega)
/-- A part sorted, told by its places. -/
theorem sg_by {ys zs : List α} {a b : Nat} (hab : a ≤ b) (hb : b ≤ ys.length) (hl : zs.length = ys.length) (h1 : zs.take a = ys.take a) (h2 : zs.drop b = ys.drop b) (hs : St key (seg ys a b) (seg zs a b)) (hu : Up key (seg zs a b)) : zs = sg key ys a b := by
  unfold sg
  rw [← srt_eq hs hu, ← h1, ← h2]
  exact whole hab
theorem sg_same {ys zs : List α} {a b : Nat} (h1 : zs.take a = ys.take a) (h2 : zs.drop b = ys.drop b) (hs : St key (seg ys a b) (seg zs a b)) : sg key zs a b = sg key ys a b := by
  unfold sg
  rw [h1, h2, srt_eq (hs.trans (srt_st _)) (srt_up _)]
theorem sg_id {ys : List α} {a b : Nat} (hab : a ≤ b) (hu : Up key (seg ys a b)) : sg key ys a b = ys := by
  unfold sg
  rw [← srt_eq (St.refl _) hu]
  exact (whole hab).symm
theorem take_of {ys zs : List α} {a : Nat} (h : ∀ p, p < a → zs[p]? = ys[p]?) : zs.take a = ys.take a := by
  refine List.ext_getElem? fun p => ?_
  by_cases hp : p < a
  · rw [List.getElem?_take_of_lt hp, List.getElem?_take_of_lt hp, h p hp]
  · rw [List.getElem?_take_eq_none (by omega), List.getElem?_take_eq_none (by omega)]
theorem drop_of {ys zs : List α} {b : Nat} (h : ∀ p, b ≤ p → zs[p]? = ys[p]?) : zs.drop b = ys.drop b := by
  refine List.ext_getElem? fun p => ?_
  rw [List.getElem?_drop, List.getElem?_drop, h _ (by omega)]
theorem sg_get_lt {ys : List α} {a b p : Nat} (hab : a ≤ b) (hb : b ≤ ys.length) (hp : p < a) : (sg key ys a b)[p]? = ys[p]? := by
  unfold sg
  rw [List.append_assoc, List.getElem?_append_left (by rw [List.length_take]; omega), List.getElem?_take_of_lt hp]
theorem sg_get_ge {ys : List α} {a b p : Nat} (hab : a ≤ b) (hb : b ≤ ys.length) (hp : b ≤ p) : (sg key ys a b)[p]? = ys[p]? := by
  have l : (ys.take a ++ srt key (seg ys a b)).length = b := by rw [List.length_append, srt_len, seg_len hb, List.length_take]; omega
  unfold sg
  rw [List.getElem?_append_right (by omega), l, List.getElem?_drop, show b + (p - b) = p by omega]
theorem sg_seg {ys : List α} {a b : Nat} (hab : a ≤ b) (hb : b ≤ ys.length) : seg (sg key ys a b) a b = srt key (seg ys a b) := by
  have l : (ys.take a).length = a := by rw [List.length_take]; omega
  have h := seg_app3 (P := ys.take a) (M := srt key (seg ys a b)) (S := ys.drop b)
  rw [l, srt_len, seg_len hb, show a + (b - a) = b by omega] at h
  exact h
/-- A step of an insertion sort. -/
theorem ins_sg {d : α} {ys : List α} {a i t : Nat} (hi : i < ys.length) (ht : a ≤ i - t) (hti : t ≤ i) (hu : Up key (seg ys a i)) (hg : ∀ s, s < t → key (ys.getD i d) < key (ys.getD (i - 1 - s) d)) (hs : i - t = a ∨ key (ys.getD (i - t - 1) d) ≤ key (ys.getD i d)) : mvL d ys i t = sg key ys a (i + 1) := by
  have hget := mvL_get (d := d) hi hti
  have hl := mvL_len d ys i t
  have e1 : seg (mvL d ys i t) a (i - t) = seg ys a (i - t) := seg_ext hl fun p h1 h2 => by rw [hget]; unfold mvX; rw [if_pos (by omega)]
  have e2 : seg (mvL d ys i t) (i - t) (i - t + 1) = [ys.getD i d] := by
    rw [seg_one (d := d) (by omega)]
    congr 1
    refine getD_get ?_
    rw [hget]; unfold mvX; rw [if_neg (by omega), if_pos rfl]
  have e3 : seg (mvL d ys i t) (i - t + 1) (i + 1) = seg ys (i - t) i := by
    refine List.ext_getElem? fun p => ?_
    by_cases hp : i - t + 1 + p < i + 1
    · rw [seg_get hp, seg_get (by omega), hget]
      congr 1
      unfold mvX
      rw [if_neg (by omega), if_neg (by omega)]; omega
    · rw [List.getElem?_eq_none_iff.2 (by rw [seg_len (by omega)]; omega), List.getElem?_eq_none_iff.2 (by rw [seg_len (by omega)]; omega)]
  have hup := (up_seg (d := d) (by omega)).1 hu
  refine sg_by (by omega) (by omega) hl (take_of fun p hp => by rw [hget]; unfold mvX; rw [if_pos (by omega)]) (drop_of fun p hp => by rw [hget]; unfold mvX; rw [if_pos (by omega)]) ?_ ?_
  · rw [seg_split (a := a) (b := i) (c := i + 1) (by omega) (by omega), seg_split (a := a) (b := i - t) (c := i) (by omega) (by omega), seg_one (d := d) hi,
      seg_split (ys := mvL d ys i t) (a := a) (b := i - t) (c := i + 1) (by omega) (by omega), seg_split (ys := mvL d ys i t) (a := i - t) (b := i - t + 1) (c := i + 1) (by omega) (by omega), e1, e2, e3, List.append_assoc]
    refine (St.refl _).app (St.swap fun x hx y hy => ?_)
    obtain ⟨p, h1, h2, h3, rfl⟩ := seg_mem (d := d) hx
    rw [List.mem_singleton.1 hy]
    have := hg (i - 1 - p) (by omega)
    rw [show i - 1 - (i - 1 - p) = p by omega] at this
    omega
  · rw [up_seg (d := d) (by omega)]
    have val : ∀ p, (mvL d ys i t).getD p d = ys.getD (mvX i t p) d := fun p => getD_get (hget p)
    intro p q h1 h2 h3
    rw [val, val]
    by_cases c1 : q < i - t
    · rw [show mvX i t p = p by unfold mvX; rw [if_pos (by omega)], show mvX i t q = q by unfold mvX; rw [if_pos (by omega)]]
      exact hup p q h1 h2 (by omega)
    · by_cases c2 : q = i - t
      · rw [show mvX i t p = p by unfold mvX; rw [if_pos (by omega)], show mvX i t q = i by unfold mvX; rw [if_neg (by omega), if_pos c2]]
        rcases hs with hs | hs
        · omega
        · by_cases hpq : p = i - t - 1
          · rw [hpq]; exact hs
          · exact Int.le_trans (hup p (i - t - 1) h1 (by omega) (by omega)) hs
      · rw [show mvX i t q = q - 1 by unfold mvX; rw [if_neg (by omega), if_neg c2]]
        by_cases c3 : p < i - t
        · rw [show mvX i t p = p by unfold mvX; rw [if_pos (by omega)]]
          by_cases hpq : p = q - 1
          · omega
          · exact hup p (q - 1) h1 (by omega) (by omega)
        · by_cases c4 : p = i - t
          · rw [show mvX i t p = i by unfold mvX; rw [if_neg (by omega), if_pos c4]]
            have := hg (i - q) (by omega)
            rw [show i - 1 - (i - q) = q - 1 by omega] at this
            omega
          · rw [show mvX i t p = p - 1 by unfold mvX; rw [if_neg (by omega), if_neg c4]]
            exact hup (p - 1) (q - 1) (by omega) (by omega) (by omega)
/-- The first ones sorted, then one more. -/
theorem sg_more {ys : List α} {a i : Nat} (hai : a ≤ i) (hi : i < ys.length) : sg key (sg key ys a i) a (i + 1) = sg key ys a (i + 1) := by
  have hl : (sg key ys a i).length = ys.length := sg_len ys hai (by omega)
  refine sg_same (take_of fun p hp => sg_get_lt hai (by omega) hp) (drop_of fun p hp => sg_get_ge hai (by omega) (by omega)) ?_
  rw [seg_split (b := i) hai (Nat.le_succ i), seg_split (ys := sg key ys a i) (b := i) hai (Nat.le_succ i), sg_seg hai (by omega)]
  refine (srt_st _).app ?_
  rw [seg_ext (ys := sg key ys a i) (zs := ys) (a := i) (b := i + 1) hl fun p h1 h2 => sg_get_ge hai (by omega) h1]
  exact St.refl _
theorem mv_at {d : α} {ys : List α} {i t : Nat} (hi : i < ys.length) (hti : t ≤ i) : (mvL d ys i t).getD (i - t) d = ys.getD i d := getD_get (by rw [mvL_get hi hti]; unfold mvX; rw [if_neg (by omega), if_pos rfl])
theorem mv_below {d : α} {ys : List α} {i t : Nat} (hi : i < ys.length) (hti : t < i) : (mvL d ys i t).getD (i - t - 1) d = ys.getD (i - t - 1) d := getD_get (by rw [mvL_get hi (by omega)]; unfold mvX; rw [if_pos (by omega)])
end
section
variable {α : Type} {key : α → Int}
/-- A thing goes up by t places. -/
def mvR (d : α) (ys : List α) (a : Nat) : Nat → List α
  | 0 => ys
  | t + 1 => ((mvR d ys a t).set (a + t) ((mvR d ys a t).getD (a + t + 1) d)).set (a + t + 1) ((mvR d ys a t).getD (a + t) d)
theorem mvR_len (d : α) (ys : List α) (a : Nat) : ∀ t, (mvR d ys a t).length = ys.length
  | 0 => rfl
  | t + 1 => by unfold mvR; rw [List.length_set, List.length_set, mvR_len d ys a t]
def mvY (a t p : Nat) : Nat := if p < a ∨ a + t < p then p else if p = a + t then a else p + 1
theorem mvR_get {d : α} {ys : List α} {a n : Nat} (hn : a + n < ys.length) : ∀ {t : Nat}, t ≤ n → ∀ p, (mvR d ys a t)[p]? = ys[mvY a t p]?
  | 0, _, p => by
    unfold mvR mvY
    congr 1
    repeat' split
    all_goals omega
  | t + 1, ht, p => by
    have ih := mvR_get hn (t := t) (by omega) (d := d)
    have hl := mvR_len d ys a t
    unfold mvR
    rw [List.getElem?_set, List.getElem?_set, List.length_set, hl]
    by_cases e1 : a + t + 1 = p
    · rw [if_pos e1, if_pos (by omega)]
      have := ih (a + t)
      rw [getD_some (d := d) (by omega)] at this
      rw [this]
      congr 1
      unfold mvY
      repeat' split
      all_goals omega
    · rw [if_neg e1]
      by_cases e2 : a + t = p
      · rw [if_pos e2, if_pos (by omega)]
        have := ih (a + t + 1)
        rw [getD_some (d := d) (by omega)] at this
        rw [this]
        congr 1
        unfold mvY
        repeat' split
        all_goals omega
      · rw [if_neg e2, ih]
        congr 1
        unfold mvY
        repeat' split
        all_goals omega
/-- One thing merged into those behind it. -/
theorem mrg_one {d : α} {ys : List α} {a b i : Nat} (hb : b ≤ ys.length) (hai : a + 1 ≤ i) (hib : i ≤ b) (hu : Up key (seg ys (a + 1) b)) (hlo : ∀ p, a + 1 ≤ p → p < i → key (ys.getD p d) < key (ys.getD a d)) (hhi : ∀ p, i ≤ p → p < b → key (ys.getD a d) ≤ key (ys.getD p d)) : mvR d ys a (i - 1 - a) = sg key ys a b := by
  have hget := mvR_get (d := d) (ys := ys) (a := a) (n := i - 1 - a) (by omega) (Nat.le_refl _)
  have hl := mvR_len d ys a (i - 1 - a)
  have e1 : seg (mvR d ys a (i - 1 - a)) a (i - 1) = seg ys (a + 1) i := by
    refine List.ext_getElem? fun p => ?_
    by_cases hp : a + p < i - 1
    · rw [seg_get hp, seg_get (by omega), hget]
      congr 1
      unfold mvY
      rw [if_neg (by omega), if_neg (by omega)]; omega
    · rw [List.getElem?_eq_none_iff.2 (by rw [seg_len (by omega)]; omega), List.getElem?_eq_none_iff.2 (by rw [seg_len (by omega)]; omega)]
  have e2 : seg (mvR d ys a (i - 1 - a)) (i - 1) i = [ys.getD a d] := by
    rw [show i = i - 1 + 1 by omega, Nat.add_sub_cancel, seg_one (d := d) (by omega)]
    congr 1
    refine getD_get ?_
    rw [hget]; unfold mvY; rw [if_neg (by omega), if_pos (by omega)]
  have e3 : seg (mvR d ys a (i - 1 - a)) i b = seg ys i b := seg_ext hl fun p h1 h2 => by rw [hget]; unfold mvY; rw [if_pos (by omega)]
  have hup := (up_seg (d := d) hb).1 hu
  refine sg_by (by omega) hb hl (take_of fun p hp => by rw [hget]; unfold mvY; rw [if_pos (by omega)]) (drop_of fun p hp => by rw [hget]; unfold mvY; rw [if_pos (by omega)]) ?_ ?_
  · rw [seg_split (a := a) (b := a + 1) (c := b) (by omega) (by omega), seg_split (a := a + 1) (b := i) (c := b) (by omega) (by omega), seg_one (d := d) (by omega),
      seg_split (ys := mvR d ys a (i - 1 - a)) (a := a) (b := i - 1) (c := b) (by omega) (by omega), seg_split (ys := mvR d ys a (i - 1 - a)) (a := i - 1) (b := i) (c := b) (by omega) (by omega), e1, e2, e3, ← List.append_assoc, ← List.append_assoc]
    refine St.app (St.swap fun x hx y hy => ?_) (St.refl _)
    obtain ⟨p, h1, h2, h3, rfl⟩ := seg_mem (d := d) hy
    rw [List.mem_singleton.1 hx]
    have := hlo p h1 h2
    omega
  · rw [up_seg (d := d) (by omega)]
    have val : ∀ p, (mvR d ys a (i - 1 - a)).getD p d = ys.getD (mvY a (i - 1 - a) p) d := fun p => getD_get (hget p)
    intro p q h1 h2 h3
    rw [val, val]
    by_cases c1 : q < i - 1
    · rw [show mvY a (i - 1 - a) p = p + 1 by unfold mvY; rw [if_neg (by omega), if_neg (by omega)], show mvY a (i - 1 - a) q = q + 1 by unfold mvY; rw [if_neg (by omega), if_neg (by omega)]]
      exact hup (p + 1) (q + 1) (by omega) (by omega) (by omega)
    · by_cases c2 : q = i - 1
      · rw [show mvY a (i - 1 - a) p = p + 1 by unfold mvY; rw [if_neg (by omega), if_neg (by omega)], show mvY a (i - 1 - a) q = a by unfold mvY; rw [if_neg (by omega), if_pos (by omega)]]
        exact Int.le_of_lt (hlo (p + 1) (by omega) (by omega))
      · rw [show mvY a (i - 1 - a) q = q by unfold mvY; rw [if_pos (by omega)]]
        by_cases c3 : p < i - 1
        · rw [show mvY a (i - 1 - a) p = p + 1 by unfold mvY; rw [if_neg (by omega), if_neg (by omega)]]
          exact hup (p + 1) q (by omega) (by omega) (by omega)
        · by_cases c4 : p = i - 1
          · rw [show mvY a (i - 1 - a) p = a by unfold mvY; rw [if_neg (by omega), if_pos (by omega)]]
            exact hhi q (by omega) (by omega)
          · rw [show mvY a (i - 1 - a) p = p by unfold mvY; rw [if_pos (by omega)]]
            exact hup p q (by omega) (by omega) (by omega)
/-- The last thing merged into those ahead of it. -/
theorem mrg_last {d : α} {ys : List α} {a m i : Nat} (hm : m < ys.length) (hai : a ≤ i) (him : i ≤ m) (hu : Up key (seg ys a m)) (hlo : ∀ p, a ≤ p → p < i → key (ys.getD p d) ≤ key (ys.getD m d)) (hhi : ∀ p, i ≤ p → p < m → key (ys.getD m d) < key (ys.getD p d)) : mvL d ys m (m - i) = sg key ys a (m + 1) := by
  refine ins_sg hm (by omega) (by omega) hu (fun s hs => hhi _ (by omega) (by omega)) ?_
  by_cases h : i = a
  · left; omega
  · right
    exact hlo _ (by omega) (by omega)
/-- Two parts sorted apart, where all of the first are below all of the second. -/
theorem sg_two {ys : List α} {d : α} {a m b : Nat} (h1 : a ≤ m) (h2 : m ≤ b) (hb : b ≤ ys.length) (h : ∀ p q, a ≤ p → p < m → m ≤ q → q < b → key (ys.getD p d) ≤ key (ys.getD q d)) : sg key (sg key ys a m) m b = sg key ys a b := by
  have hl : (sg key ys a m).length = ys.length := sg_len ys h1 (by omega)
  have e2 : seg (sg key ys a m) m b = seg ys m b := seg_ext hl fun p h3 h4 => sg_get_ge h1 (by omega) h3
  have f1 : seg (sg key (sg key ys a m) m b) a m = srt key (seg ys a m) := by
    rw [← sg_seg h1 (by omega)]
    exact seg_ext (by rw [sg_len _ h2 (by omega)]) fun p h3 h4 => sg_get_lt h2 (by omega) h4
  have f2 : seg (sg key (sg key ys a m) m b) m b = srt key (seg ys m b) := by rw [sg_seg h2 (by omega), e2]
  refine sg_by (by omega) hb (by rw [sg_len _ h2 (by omega), hl]) (take_of fun p hp => by rw [sg_get_lt h2 (by omega) (by omega), sg_get_lt h1 (by omega) hp]) (drop_of fun p hp => by rw [sg_get_ge h2 (by omega) hp, sg_get_ge h1 (by omega) (by omega)]) ?_ ?_
  · rw [seg_split h1 h2, seg_split (ys := sg key (sg key ys a m) m b) h1 h2, f1, f2]
    exact (srt_st _).app (srt_st _)
  · rw [seg_split h1 h2, f1, f2]
    refine List.pairwise_append.2 ⟨srt_up _, srt_up _, fun x hx y hy => ?_⟩
    obtain ⟨p, g1, g2, g3, rfl⟩ := seg_mem (d := d) ((srt_st _).mem hx)
    obtain ⟨q, g4, g5, g6, rfl⟩ := seg_mem (d := d) ((srt_st _).mem hy)
    exact h p q g1 g2 g4 g5
/-- What the search for the middle finds. -/
structure Mid (key : α → Int) (d : α) (ys : List α) (a m b s : Nat) : Prop where
  up1 : Up key (seg ys a m)
  up2 : Up key (seg ys m b)
  am : a < m
  mb : m < b
  hb : b ≤ ys.length
  lo : (if (a + b) / 2 < m then (a + b) / 2 + m - b else a) ≤ s
  hi : s ≤ (if (a + b) / 2 < m then (a + b) / 2 else m)
  f : ∀ c, (if (a + b) / 2 < m then (a + b) / 2 + m - b else a) ≤ c → c < s → key (ys.getD c d) ≤ key (ys.getD ((a + b) / 2 + m - 1 - c) d)
  g : ∀ c, s ≤ c → c < (if (a + b) / 2 < m then (a + b) / 2 else m) → key (ys.getD ((a + b) / 2 + m - 1 - c) d) < key (ys.getD c d)
theorem Mid.bd {d : α} {ys : List α} {a m b s : Nat} (h : Mid key d ys a m b s) : a ≤ s ∧ s ≤ m ∧ m ≤ (a + b) / 2 + m - s ∧ (a + b) / 2 + m - s ≤ b := by
  have h1 := h.lo
  have h2 := h.hi
  have := h.am
  have := h.mb
  split at h1 <;> split at h2 <;> omega
/-- All that stays in the first half is below all that goes behind it. -/
theorem Mid.ab {d : α} {ys : List α} {a m b s : Nat} (h : Mid key d ys a m b s) : (∀ c q, a ≤ c → c < s → (a + b) / 2 + m - s ≤ q → q < b → key (ys.getD c d) ≤ key (ys.getD q d)) ∧ (∀ c q, s ≤ c → c < m → m ≤ q → q < (a + b) / 2 + m - s → key (ys.getD q d) < key (ys.getD c d)) := by
  have u1 := (up_seg (d := d) (by have := h.mb; have := h.hb; omega)).1 h.up1
  have u2 := (up_seg (d := d) h.hb).1 h.up2
  have le1 : ∀ p q, a ≤ p → p ≤ q → q < m → key (ys.getD p d) ≤ key (ys.getD q d) := fun p q g1 g2 g3 => by
    by_cases e : p = q
    · rw [e]; exact Int.le_refl _
    · exact u1 p q g1 (by omega) g3
  have le2 : ∀ p q, m ≤ p → p ≤ q → q < b → key (ys.getD p d) ≤ key (ys.getD q d) := fun p q g1 g2 g3 => by
    by_cases e : p = q
    · rw [e]; exact Int.le_refl _
    · exact u2 p q g1 (by omega) g3
  obtain ⟨b1, b2, b3, b4⟩ := h.bd
  have h1 := h.lo
  have h2 := h.hi
  have ham := h.am
  have hmb := h.mb
  refine ⟨fun c q g1 g2 g3 g4 => ?_, fun c q g1 g2 g3 g4 => ?_⟩
  · have hf := h.f (s - 1)
    have hlo : (if (a + b) / 2 < m then (a + b) / 2 + m - b else a) ≤ s - 1 := by
      split at h1
      · rw [if_pos ‹_›]; omega
      · rw [if_neg ‹_›]; omega
    have hf := hf hlo (by omega)
    refine Int.le_trans (le1 c (s - 1) g1 (by omega) (by omega)) (Int.le_trans hf (le2 _ _ (by omega) (by omega) g4))
  · have hg := h.g s (Nat.le_refl _)
    have hhi : s < (if (a + b) / 2 < m then (a + b) / 2 else m) := by
      split at h2
      · rw [if_pos ‹_›]; omega
      · rw [if_neg ‹_›]; omega
    have hg := hg hhi
    have := le2 q ((a + b) / 2 + m - 1 - s) g3 (by omega) (by omega)
    have := le1 s c b1 g1 g2
    omega
/-- The two halves, behind the rotation. -/
theorem Mid.sg {d : α} {ys : List α} {a m b s : Nat} (h : Mid key d ys a m b s) : So.sg key (So.sg key (rotL ys s m ((a + b) / 2 + m - s)) a ((a + b) / 2)) ((a + b) / 2) b = So.sg key ys a b ∧
    Up key (seg (rotL ys s m ((a + b) / 2 + m - s)) a s) ∧ Up key (seg (rotL ys s m ((a + b) / 2 + m - s)) s ((a + b) / 2)) ∧
    Up key (seg (So.sg key (rotL ys s m ((a + b) / 2 + m - s)) a ((a + b) / 2)) ((a + b) / 2) ((a + b) / 2 + m - s)) ∧ Up key (seg (So.sg key (rotL ys s m ((a + b) / 2 + m - s)) a ((a + b) / 2)) ((a + b) / 2 + m - s) b) := by
  obtain ⟨b1, b2, b3, b4⟩ := h.bd
  obtain ⟨ab1, ab2⟩ := h.ab
  have ham := h.am
  have hmb := h.mb
  have hb := h.hb
  obtain ⟨e, he⟩ : ∃ e, (a + b) / 2 + m - s = e := ⟨_, rfl⟩
  obtain ⟨M, hM⟩ : ∃ M, (a + b) / 2 = M := ⟨_, rfl⟩
  have hd : a ≤ M ∧ M < b ∧ s + (e - m) = M ∧ s ≤ M ∧ M ≤ e := by omega
  rw [he] at b3 b4 ab1 ab2
  rw [he, hM]
  have u1 := (up_seg (d := d) (by omega)).1 h.up1
  have u2 := (up_seg (d := d) hb).1 h.up2
  have hget := fun p => rotL_get (ys := ys) (a := s) (m := m) (b := e) b2 b3 (by omega) p
  have hl : (rotL ys s m e).length = ys.length := rotL_len b2 b3 (by omega)
  have val : ∀ p, (rotL ys s m e).getD p d = ys.getD (rotX s m e p) d := fun p => getD_get (hget p)
  have s1 : seg (rotL ys s m e) a s = seg ys a s := seg_ext hl fun p h1 h2 => by rw [hget]; unfold rotX; rw [if_pos h2]
  have s2 : seg (rotL ys s m e) s M = seg ys m e := by
    refine List.ext_getElem? fun p => ?_
    by_cases hp : s + p < M
    · rw [seg_get hp, seg_get (by omega), hget]
      congr 1
      unfold rotX
      rw [if_neg (by omega), if_pos (by omega)]; omega
    · rw [List.getElem?_eq_none_iff.2 (by rw [seg_len (by omega)]; omega), List.getElem?_eq_none_iff.2 (by rw [seg_len (by omega)]; omega)]
  have s3 : seg (rotL ys s m e) M e = seg ys s m := by
    refine List.ext_getElem? fun p => ?_
    by_cases hp : M + p < e
    · rw [seg_get hp, seg_get (by omega), hget]
      congr 1
      unfold rotX
      rw [if_neg (by omega), if_neg (by omega), if_pos (by omega)]; omega
    · rw [List.getElem?_eq_none_iff.2 (by rw [seg_len (by omega)]; omega), List.getElem?_eq_none_iff.2 (by rw [seg_len (by omega)]; omega)]
  have s4 : seg (rotL ys s m e) e b = seg ys e b := seg_ext hl fun p h1 h2 => by
    rw [hget]; unfold rotX
    congr 1
    repeat' split
    all_goals omega
  have upS : ∀ {x y : Nat}, a ≤ x → y ≤ m → Up key (seg ys x y) := fun {x y} g1 g2 => (up_seg (d := d) (by omega)).2 fun p q k1 k2 k3 => u1 p q (by omega) k2 (by omega)
  have upT : ∀ {x y : Nat}, m ≤ x → y ≤ b → Up key (seg ys x y) := fun {x y} g1 g2 => (up_seg (d := d) (by omega)).2 fun p q k1 k2 k3 => u2 p q (by omega) k2 (by omega)
  have z : ∀ {x y : Nat}, M ≤ x → y ≤ b → seg (So.sg key (rotL ys s m e) a M) x y = seg (rotL ys s m e) x y := fun {x y} g1 g2 => seg_ext (by rw [sg_len _ hd.1 (by omega)]) fun p k1 k2 => sg_get_ge hd.1 (by omega) (by omega)
  refine ⟨?_, by rw [s1]; exact upS (Nat.le_refl _) b2, by rw [s2]; exact upT (Nat.le_refl _) b4, by rw [z (Nat.le_refl _) b4, s3]; exact upS b1 (Nat.le_refl _), by rw [z hd.2.2.2.2 (Nat.le_refl _), s4]; exact upT b3 (Nat.le_refl _)⟩
  rw [sg_two (d := d) hd.1 (by omega) (by omega)]
  · refine sg_same (take_of fun p hp => by rw [hget]; unfold rotX; rw [if_pos (by omega)]) (drop_of fun p hp => by
      rw [hget]; unfold rotX
      congr 1
      repeat' split
      all_goals omega) ?_
    rw [seg_split (ys := ys) (a := a) (b := s) (c := b) (by omega) (by omega), seg_split (ys := ys) (a := s) (b := m) (c := b) (by omega) (by omega), seg_split (ys := ys) (a := m) (b := e) (c := b) (by omega) (by omega),
      seg_split (ys := rotL ys s m e) (a := a) (b := s) (c := b) (by omega) (by omega), seg_split (ys := rotL ys s m e) (a := s) (b := M) (c := b) (by omega) (by omega), seg_split (ys := rotL ys s m e) (a := M) (b := e) (c := b) (by omega) (by omega), s1, s2, s3, s4]
    refine (St.refl _).app ?_
    rw [← List.append_assoc, ← List.append_assoc]
    refine St.app (St.swap fun x hx y hy => ?_) (St.refl _)
    obtain ⟨p, k1, k2, k3, rfl⟩ := seg_mem (d := d) hx
    obtain ⟨q, k4, k5, k6, rfl⟩ := seg_mem (d := d) hy
    have := ab2 p q k1 k2 k4 k5
    omega
  · intro p q k1 k2 k3 k4
    rw [val, val]
    by_cases c1 : p < s
    · rw [show rotX s m e p = p by unfold rotX; rw [if_pos c1]]
      by_cases c2 : q < e
      · rw [show rotX s m e q = s + (q - M) by unfold rotX; rw [if_neg (by omega), if_neg (by omega), if_pos c2]; omega]
        exact u1 p _ k1 (by omega) (by omega)
      · rw [show rotX s m e q = q by unfold rotX; rw [if_neg (by omega), if_neg (by omega), if_neg c2]]
        exact ab1 p q k1 c1 (by omega) k4
    · rw [show rotX s m e p = m + (p - s) by unfold rotX; rw [if_neg c1, if_pos (by omega)]]
      by_cases c2 : q < e
      · rw [show rotX s m e q = s + (q - M) by unfold rotX; rw [if_neg (by omega), if_neg (by omega), if_pos c2]; omega]
        exact Int.le_of_lt (ab2 _ _ (by omega) (by omega) (by omega) (by omega))
      · rw [show rotX s m e q = q by unfold rotX; rw [if_neg (by omega), if_neg (by omega), if_neg c2]]
        exact u2 _ _ (by omega) (by omega) k4
end
end Go.Proofs.Ytdglhppcfdpcaaa.So
