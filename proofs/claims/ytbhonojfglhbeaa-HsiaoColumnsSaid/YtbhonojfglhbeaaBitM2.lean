/- Which numbers have so many ones. -/
import Derived.Test.YtbhonojfglhbeaaBitM
namespace Go.Proofs.Ytbhonojfglhbeaa
/-- Of the m numbers from x on those with k ones. -/
def chTo : Nat → Nat → Nat → List Nat
  | 0, _, _ => []
  | m + 1, x, k => if pc x = k then x :: chTo m (x + 1) k else chTo m (x + 1) k
def choose (n k : Nat) : List Nat := chTo (2 ^ n) 0 k
theorem chTo_mem (m : Nat) : ∀ x k y, y ∈ chTo m x k → x ≤ y ∧ y < x + m ∧ pc y = k := by
  induction m with
  | zero => intro x k y h; cases h
  | succ m ih =>
    intro x k y h
    rw [chTo] at h
    have rest : y ∈ chTo m (x + 1) k → x ≤ y ∧ y < x + (m + 1) ∧ pc y = k := fun h => by
      have := ih _ _ _ h
      exact ⟨by omega, by omega, this.2.2⟩
    split at h
    · rename_i hp
      rcases List.mem_cons.1 h with rfl | h
      · exact ⟨Nat.le_refl _, by omega, hp⟩
      · exact rest h
    · exact rest h
theorem chTo_rise (m : Nat) : ∀ x k, (chTo m x k).Pairwise (· < ·) := by
  induction m with
  | zero => intro x k; exact List.Pairwise.nil
  | succ m ih =>
    intro x k
    rw [chTo]
    split
    · refine List.Pairwise.cons (fun p hp => ?_) (ih _ _)
      have := (chTo_mem _ _ _ p hp).1
      omega
    · exact ih _ _
/-- How many of the first m numbers have k ones. -/
def cntTo (k : Nat) : Nat → Nat
  | 0 => 0
  | m + 1 => cntTo k m + if pc m = k then 1 else 0
theorem chTo_length (m : Nat) : ∀ x k, (chTo m x k).length + cntTo k x = cntTo k (x + m) := by
  induction m with
  | zero => intro x k; rw [chTo, List.length_nil, Nat.zero_add, Nat.add_zero]
  | succ m ih =>
    intro x k
    have h := ih (x + 1) k
    rw [cntTo] at h
    rw [chTo, show x + (m + 1) = x + 1 + m from by omega, ← h]
    by_cases hp : pc x = k
    · rw [if_pos hp, if_pos hp, List.length_cons]; omega
    · rw [if_neg hp, if_neg hp]; omega
theorem choose_length (n k : Nat) : (choose n k).length = cntTo k (2 ^ n) := by
  have := chTo_length (2 ^ n) 0 k
  rw [Nat.zero_add] at this
  exact this
end Go.Proofs.Ytbhonojfglhbeaa
