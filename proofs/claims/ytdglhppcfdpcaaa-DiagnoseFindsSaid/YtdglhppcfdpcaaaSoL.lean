/- The groups of a sorted list: their keys ascend, each holds all of its key. -/
import Derived.Test.YtdglhppcfdpcaaaSoJ
set_option linter.unusedVariables false
namespace Go.Proofs.Ytdglhppcfdpcaaa.So
section
variable {α : Type} {key : α → Int}
theorem up_get {S : List α} {d : α} (h : Up key S) {i j : Nat} (hij : i ≤ j) (hj : j < S.length) : key (S.getD i d) ≤ key (S.getD j d) := by
  rcases Nat.lt_or_ge i j with hlt | hge
  · have := List.pairwise_iff_getElem.1 h i j (by omega) hj hlt
    rw [List.getD_eq_getElem?_getD, List.getD_eq_getElem?_getD, List.getElem?_eq_getElem hj, List.getElem?_eq_getElem (by omega : i < S.length)]
    exact this
  · rw [show i = j by omega]; exact Int.le_refl _
theorem grp_pos {S : List α} {t : Nat} {p : Int × List α} (h : (grp key S)[t]? = some p) : 0 < p.2.length := List.length_pos_iff.2 (grp_all S p (List.mem_of_getElem? h)).1
theorem grp_asc {S : List α} (d : α) (hu : Up key S) {t : Nat} {p q : Int × List α} (h : (grp key S)[t]? = some p) (h' : (grp key S)[t + 1]? = some q) : p.1 < q.1 := by
  obtain ⟨l1, e1⟩ := grp_in (d := d) (i := 0) h (grp_pos h)
  obtain ⟨l2, e2⟩ := grp_in (d := d) (i := 0) h' (grp_pos h')
  have hs := ga_succ h
  have h3 := up_get (d := d) hu (i := ga (grp key S) t + 0) (j := ga (grp key S) (t + 1) + 0) (by omega) l2
  have h4 := grp_next S t p q h h'
  rw [e1, e2] at h3
  omega
theorem grp_lo {S : List α} {d : α} (hu : Up key S) {t i : Nat} {p : Int × List α} (h : (grp key S)[t]? = some p) (hi : i < ga (grp key S) t) : key (S.getD i d) < p.1 := by
  cases t with
  | zero => rw [ga_zero] at hi; omega
  | succ t =>
    have hlt : t + 1 < (grp key S).length := (List.getElem?_eq_some_iff.1 h).1
    have hq : (grp key S)[t]? = some (grp key S)[t] := List.getElem?_eq_getElem (by omega)
    have hp := grp_pos hq
    have hs := ga_succ hq
    obtain ⟨l1, e1⟩ := grp_in (d := d) (i := (grp key S)[t].2.length - 1) hq (by omega)
    have h3 := up_get (d := d) hu (i := i) (j := ga (grp key S) t + ((grp key S)[t].2.length - 1)) (by omega) l1
    have h4 := grp_asc d hu hq h
    rw [e1] at h3
    omega
theorem grp_hi {S : List α} {d : α} (hu : Up key S) {t i : Nat} {p : Int × List α} (h : (grp key S)[t]? = some p) (hi : ga (grp key S) t + p.2.length ≤ i) (hl : i < S.length) : p.1 < key (S.getD i d) := by
  have hs := ga_succ h
  have hlt : t + 1 < (grp key S).length := ga_lt.1 (by omega)
  have hq : (grp key S)[t + 1]? = some (grp key S)[t + 1] := List.getElem?_eq_getElem hlt
  obtain ⟨l1, e1⟩ := grp_in (d := d) (i := 0) hq (grp_pos hq)
  have h3 := up_get (d := d) hu (i := ga (grp key S) (t + 1) + 0) (j := i) (by omega) hl
  have h4 := grp_asc d hu h hq
  rw [e1] at h3
  omega
/-- A group holds all of its key, in their order. -/
theorem grp_filter {S : List α} (d : α) (hu : Up key S) {t : Nat} {p : Int × List α} (h : (grp key S)[t]? = some p) : S.filter (fun a => key a == p.1) = p.2 := by
  obtain ⟨pre, post, e, hl⟩ := ga_split h
  have hlen := congrArg List.length e
  simp only [List.length_append] at hlen
  have h1 : ∀ a ∈ pre, key a ≠ p.1 := fun a ha => by
    obtain ⟨i, hi, rfl⟩ := List.getElem_of_mem ha
    have h3 := grp_lo (d := d) (i := i) hu h (by omega)
    have h4 : S.getD i d = pre[i] := by
      rw [List.getD_eq_getElem?_getD]
      conv => lhs; rw [e, List.append_assoc]
      rw [List.getElem?_append_left hi, List.getElem?_eq_getElem hi]; rfl
    rw [h4] at h3
    omega
  have h2 : ∀ a ∈ post, key a ≠ p.1 := fun a ha => by
    obtain ⟨i, hi, rfl⟩ := List.getElem_of_mem ha
    have h3 := grp_hi (d := d) (i := pre.length + p.2.length + i) hu h (by omega) (by omega)
    have h4 : S.getD (pre.length + p.2.length + i) d = post[i] := by
      rw [List.getD_eq_getElem?_getD]
      conv => lhs; rw [e]
      rw [List.getElem?_append_right (by rw [List.length_append]; omega), List.length_append, show pre.length + p.2.length + i - (pre.length + p.2.length) = i by omega, List.getElem?_eq_getElem hi]; rfl
    rw [h4] at h3
    omega
  conv => lhs; rw [e]
  rw [List.filter_append, List.filter_append, filter_none h1, filter_none h2, List.nil_append, List.append_nil]
  exact List.filter_eq_self.2 fun a ha => beq_iff_eq.2 ((grp_all S p (List.mem_of_getElem? h)).2 a ha)
/-- The groups of what was sorted. -/
theorem grp_srt {xs : List α} (d : α) {t : Nat} {p : Int × List α} (h : (grp key (srt key xs))[t]? = some p) : p.2 = xs.filter (fun a => key a == p.1) := by
  rw [← grp_filter d (srt_up xs) h]
  exact srt_st xs p.1
end
end Go.Proofs.Ytdglhppcfdpcaaa.So
