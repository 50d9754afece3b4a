/- Bits that are turned where two are unlike: plain mathematics. No program in sight. -/
import Derived.Test.YtjbpegmdbgkdlaaBitBm
namespace Go.Proofs.Ytjbpegmdbgkdlaa
open Go.RowKit

theorem dfTo_turn {zs ys : List UInt8} {p : Nat} (hp : p / 8 < zs.length) (hne : bitI zs (p : Int) ≠ bitI ys (p : Int)) (k : Nat) : dfTo (flipI zs (p : Int)) ys k + (if p < k then 1 else 0) = dfTo zs ys k := by
  induction k with
  | zero => rfl
  | succ k ih =>
    have hz := bitI_lt zs (k : Int)
    have hy := bitI_lt ys (k : Int)
    rw [dfTo, dfTo, flipI_bit hp]
    by_cases hk : k = p
    · subst hk
      rw [if_neg (show ¬ k < k by omega)] at ih
      rw [if_pos (show k = k from rfl), if_neg hne, if_pos (show 1 - bitI zs (k : Int) = bitI ys (k : Int) by omega), if_pos (show k < k + 1 by omega)]
      omega
    · rw [if_neg hk]
      by_cases h2 : p < k
      · rw [if_pos h2] at ih
        rw [if_pos (show p < k + 1 by omega)]; omega
      · rw [if_neg h2] at ih
        rw [if_neg (show ¬ p < k + 1 by omega)]; omega
/-- The first i unlike places turned. -/
def turns (xs : List UInt8) : List Nat → List UInt8
  | [] => xs
  | p :: ps => turns (flipI xs (p : Int)) ps
theorem turns_snoc (ps : List Nat) : ∀ (xs : List UInt8) (p : Nat), turns xs (ps ++ [p]) = flipI (turns xs ps) (p : Int) := by
  induction ps with
  | nil => intro xs p; rfl
  | cons q ps ih => intro xs p; exact ih _ p
theorem turns_length (ps : List Nat) : ∀ xs : List UInt8, (turns xs ps).length = xs.length := by
  induction ps with
  | nil => intro xs; rfl
  | cons q ps ih => intro xs; rw [turns, ih, flipI_length]
theorem flipI_far {xs : List UInt8} {p q : Nat} (h : q ≠ p) : bitI (flipI xs (p : Int)) (q : Int) = bitI xs (q : Int) := by
  by_cases hp : p / 8 < xs.length
  · rw [flipI_bit hp, if_neg h]
  · rw [flipI_out (by simpa using hp)]
theorem turns_far (ps : List Nat) (q : Nat) (h : q ∉ ps) : ∀ xs : List UInt8, bitI (turns xs ps) (q : Int) = bitI xs (q : Int) := by
  induction ps with
  | nil => intro xs; rfl
  | cons p ps ih =>
    intro xs
    rw [turns, ih (fun e => h (List.mem_cons_of_mem _ e)), flipI_far (fun e => h (by rw [e]; exact List.mem_cons_self ..))]
/-- Behind i turns there are i unlike bits less. -/
theorem turns_df (xs ys : List UInt8) (N : Nat) (hx : N ≤ xs.length) (hy : N ≤ ys.length) : ∀ i, i ≤ (plTo xs ys N).length → dfTo (turns (xs.take N) ((plTo xs ys N).take i)) (ys.take N) (8 * N) + i = dfB xs ys N
  | 0, _ => by rw [List.take_zero, turns, Nat.add_zero, dfTo_take]
  | i + 1, hi => by
    have ih := turns_df xs ys N hx hy i (by omega)
    obtain ⟨p, hp⟩ : ∃ p, (plTo xs ys N)[i]? = some p := ⟨_, List.getElem?_eq_getElem (by omega)⟩
    have hm := plTo_mem xs ys N p (List.mem_of_getElem? hp)
    have hnin : p ∉ (plTo xs ys N).take i := by
      intro he
      have hr := plTo_rise xs ys N
      rw [List.pairwise_iff_getElem] at hr
      obtain ⟨j, hj, he⟩ := List.mem_iff_getElem.1 he
      rw [List.length_take] at hj
      rw [List.getElem_take] at he
      obtain ⟨a1, a2⟩ := List.getElem?_eq_some_iff.1 hp
      have := hr j i (by omega) a1 (by omega)
      omega
    have hb : bitI (turns (xs.take N) ((plTo xs ys N).take i)) (p : Int) ≠ bitI (ys.take N) (p : Int) := by
      rw [turns_far _ _ hnin, bitI_take xs N p hm.1, bitI_take ys N p hm.1]; exact hm.2
    have hlen : (turns (xs.take N) ((plTo xs ys N).take i)).length = N := by rw [turns_length, List.length_take]; omega
    have h2 := dfTo_turn (zs := turns (xs.take N) ((plTo xs ys N).take i)) (ys := ys.take N) (p := p) (by rw [hlen]; omega) hb (8 * N)
    rw [if_pos hm.1] at h2
    rw [List.take_add_one, hp, Option.toList_some, turns_snoc]
    omega
end Go.Proofs.Ytjbpegmdbgkdlaa
