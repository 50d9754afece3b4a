/- Groups of a sorted list, plainly. -/
import Derived.Test.YtdglhppcfdpcaaaSoG
set_option linter.unusedVariables false
namespace Go.Proofs.Ytdglhppcfdpcaaa.So
section
variable {α : Type} {key : α → Int}
/-- Neighbours of the same key. -/
def grp (key : α → Int) : List α → List (Int × List α)
  | [] => []
  | a :: r => match grp key r with
    | [] => [(key a, [a])]
    | (k, g) :: gs => if key a = k then (k, a :: g) :: gs else (key a, [a]) :: (k, g) :: gs
def ga (gs : List (Int × List α)) (t : Nat) : Nat := ((gs.take t).flatMap (·.2)).length
theorem grp_flat : ∀ S : List α, (grp key S).flatMap (·.2) = S
  | [] => rfl
  | a :: r => by
    have ih := grp_flat r
    rw [grp]
    split
    · next h => rw [h] at ih; rw [← ih]; rfl
    · next k g gs h =>
      rw [h] at ih
      split
      · rw [← ih]; rfl
      · rw [← ih]; rfl
theorem grp_all : ∀ (S : List α), ∀ p ∈ grp key S, p.2 ≠ [] ∧ ∀ a ∈ p.2, key a = p.1
  | [], p, hp => by rw [grp] at hp; cases hp
  | a :: r, p, hp => by
    have ih := grp_all r
    rw [grp] at hp
    split at hp
    · next h =>
      obtain rfl := List.mem_singleton.1 hp
      exact ⟨List.cons_ne_nil _ _, fun x hx => by rw [List.mem_singleton.1 hx]⟩
    · next k g gs h =>
      rw [h] at ih
      split at hp
      · next hk =>
        rcases List.mem_cons.1 hp with rfl | hp
        · refine ⟨List.cons_ne_nil _ _, fun x hx => ?_⟩
          rcases List.mem_cons.1 hx with rfl | hx
          · exact hk
          · exact (ih (k, g) List.mem_cons_self).2 x hx
        · exact ih p (List.mem_cons_of_mem _ hp)
      · rcases List.mem_cons.1 hp with rfl | hp
        · exact ⟨List.cons_ne_nil _ _, fun x hx => by rw [List.mem_singleton.1 hx]⟩
        · exact ih p hp
theorem grp_next : ∀ (S : List α) (t : Nat) (p q : Int × List α), (grp key S)[t]? = some p → (grp key S)[t + 1]? = some q → p.1 ≠ q.1
  | [], t, p, q, h, _ => by rw [grp] at h; cases h
  | a :: r, t, p, q, h, h' => by
    have ih := grp_next r
    rw [grp] at h h'
    obtain ⟨G, hG⟩ : ∃ G, grp key r = G := ⟨_, rfl⟩
    rw [hG] at ih h h'
    match G, ih, h, h' with
    | [], _, _, h' => cases h'
    | (k, g) :: gs, ih, h, h' =>
      by_cases hk : key a = k
      · simp only [if_pos hk] at h h'
        match t, h, h' with
        | 0, h, h' =>
          obtain rfl := Option.some.inj h
          exact ih 0 (k, g) q rfl h'
        | t + 1, h, h' => exact ih (t + 1) p q h h'
      · simp only [if_neg hk] at h h'
        match t, h, h' with
        | 0, h, h' =>
          obtain rfl := Option.some.inj h
          obtain rfl := Option.some.inj h'
          exact hk
        | t + 1, h, h' => exact ih t p q h h'
theorem ga_zero (gs : List (Int × List α)) : ga gs 0 = 0 := rfl
theorem take_succ' {gs : List (Int × List α)} {t : Nat} {p : Int × List α} (h : gs[t]? = some p) : gs.take (t + 1) = gs.take t ++ [p] := by
  rw [List.take_add_one, h]; rfl
theorem ga_succ {gs : List (Int × List α)} {t : Nat} {p : Int × List α} (h : gs[t]? = some p) : ga gs (t + 1) = ga gs t + p.2.length := by
  unfold ga
  rw [take_succ' h, List.flatMap_append, List.length_append]
  simp
theorem ga_split {S : List α} {t : Nat} {p : Int × List α} (h : (grp key S)[t]? = some p) : ∃ pre post, S = pre ++ p.2 ++ post ∧ pre.length = ga (grp key S) t := by
  have h1 := grp_flat (key := key) S
  have h2 : grp key S = (grp key S).take t ++ p :: (grp key S).drop (t + 1) := by
    obtain ⟨hi, e⟩ := List.getElem?_eq_some_iff.1 h
    rw [← e, ← List.drop_eq_getElem_cons hi, List.take_append_drop]
  refine ⟨((grp key S).take t).flatMap (·.2), ((grp key S).drop (t + 1)).flatMap (·.2), ?_, rfl⟩
  conv => lhs; rw [← h1, h2, List.flatMap_append, List.flatMap_cons]
  rw [List.append_assoc]
theorem grp_in {S : List α} {d : α} {t i : Nat} {p : Int × List α} (h : (grp key S)[t]? = some p) (hi : i < p.2.length) : ga (grp key S) t + i < S.length ∧ key (S.getD (ga (grp key S) t + i) d) = p.1 := by
  obtain ⟨pre, post, e, hl⟩ := ga_split h
  have hlt : ga (grp key S) t + i < S.length := by
    have := congrArg List.length e
    simp only [List.length_append] at this
    omega
  refine ⟨hlt, ?_⟩
  have hg : S.getD (ga (grp key S) t + i) d = p.2[i] := by
    have h3 : S[ga (grp key S) t + i]? = some p.2[i] := by
      rw [← hl, e, List.append_assoc, List.getElem?_append_right (by omega), show pre.length + i - pre.length = i by omega, List.getElem?_append_left hi, List.getElem?_eq_getElem hi]
    rw [List.getD_eq_getElem?_getD, h3]; rfl
  rw [hg]
  exact (grp_all S p (List.mem_of_getElem? h)).2 _ (List.getElem_mem hi)
theorem ga_le {S : List α} {t : Nat} : ga (grp key S) t ≤ S.length := by
  have h1 := congrArg List.length (grp_flat (key := key) S)
  rw [← h1]
  unfold ga
  conv => rhs; rw [← List.take_append_drop t (grp key S), List.flatMap_append, List.length_append]
  omega
theorem ga_all {S : List α} {t : Nat} (h : (grp key S).length ≤ t) : ga (grp key S) t = S.length := by
  unfold ga
  rw [List.take_of_length_le h, grp_flat]
theorem ga_lt {S : List α} {t : Nat} : ga (grp key S) t < S.length ↔ t < (grp key S).length := by
  constructor
  · intro h
    rcases Nat.lt_or_ge t (grp key S).length with h1 | h1
    · exact h1
    · have := ga_all h1; omega
  · intro h
    have hp : (grp key S)[t]? = some (grp key S)[t] := List.getElem?_eq_getElem h
    have h2 := (grp_all S _ (List.mem_of_getElem? hp)).1
    have h3 : 0 < (grp key S)[t].2.length := List.length_pos_iff.2 h2
    cases S with
    | nil => rw [show grp key ([] : List α) = [] from rfl] at h; simp at h
    | cons d r => have := (grp_in (d := d) hp h3).1; omega
theorem grp_out {S : List α} {d : α} {t : Nat} {p : Int × List α} (h : (grp key S)[t]? = some p) (hl : ga (grp key S) t + p.2.length < S.length) : key (S.getD (ga (grp key S) t + p.2.length) d) ≠ p.1 := by
  rw [← ga_succ h] at hl ⊢
  have h1 := ga_lt.1 hl
  have hq : (grp key S)[t + 1]? = some (grp key S)[t + 1] := List.getElem?_eq_getElem h1
  have h2 := (grp_all S _ (List.mem_of_getElem? hq)).1
  have h3 := (grp_in (d := d) (i := 0) hq (List.length_pos_iff.2 h2)).2
  rw [Nat.add_zero] at h3
  rw [h3]
  exact (grp_next S t p _ h hq).symm
theorem grp_seg {S : List α} {t : Nat} {p : Int × List α} (h : (grp key S)[t]? = some p) : (S.drop (ga (grp key S) t)).take p.2.length = p.2 := by
  obtain ⟨pre, post, e, hl⟩ := ga_split h
  rw [← hl]
  conv => lhs; rw [e, List.append_assoc]
  rw [List.drop_left, List.take_left]
end
end Go.Proofs.Ytdglhppcfdpcaaa.So
