/- Sums of polynomials: a walk. -/
import Derived.Test.YtdgflbbffimpkaaPolyC
namespace Go.Proofs.Ytdgflbbffimpkaa
open Go.RowKit Go.Shelf
set_option linter.unusedVariables false
attribute [local go_sem] Oper.semAt_some

/-- The sums of the first k. -/
def adTo (p q : List UInt8) (k : Nat) : List UInt8 := ofF p.length fun i => if i < k then co p i ^^^ co q i else co p i
theorem adTo_len (p q : List UInt8) (k : Nat) : (adTo p q k).length = p.length := ofF_len _ _
theorem ofF_co (p : List UInt8) : ofF p.length (co p) = p := list_ext (ofF_len _ _) fun i hi => by rw [ofF_len] at hi; rw [co_ofF, if_pos hi]
theorem adTo_zero (p q : List UInt8) : adTo p q 0 = p := by
  unfold adTo
  rw [ofF_congr (g := co p) fun i _ => if_neg (by omega)]
  exact ofF_co p
theorem adTo_co (p q : List UInt8) {k : Nat} (h : k < p.length) : co (adTo p q k) k = co p k := by
  unfold adTo
  rw [co_ofF, if_pos h, if_neg (by omega)]
theorem adTo_succ (p q : List UInt8) (k : Nat) : (adTo p q k).set k (co p k ^^^ co q k) = adTo p q (k + 1) :=
  ofF_succ_set _ _ _ _ _ fun i _ => by
    by_cases e : i = k
    · subst e; rw [if_pos (by omega), if_pos rfl]
    · rw [if_neg e]
      by_cases h : i < k
      · rw [if_pos (by omega), if_pos h]
      · rw [if_neg (by omega), if_neg h]
theorem adTo_all {p q : List UInt8} (h : q.length ≤ p.length) : trimL (adTo p q q.length) = addL p q := by
  unfold addL adTo
  refine trimL_congr fun i => ?_
  rw [co_ofF, co_ofF, Nat.max_eq_left h]
  split
  · split
    · rfl
    · rw [co_ge (p := q) (by omega), UInt8.xor_zero]
  · rfl

end Go.Proofs.Ytdgflbbffimpkaa
