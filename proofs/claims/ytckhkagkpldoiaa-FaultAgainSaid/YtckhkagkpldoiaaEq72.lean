/- Equality of rows of 72 bytes. -/
import Derived.Test.YtckhkagkpldoiaaSRows
import Derived.Test.YtckhkagkpldoiaaRawT2
namespace Go.Proofs.Ytckhkagkpldoiaa
open Go.RowKit Go.Shelf
set_option linter.unusedVariables false
theorem eqIt_any (xs ys : List UInt8) (N : Nat) (hl : xs.length = N) (hm : ys.length = N) (w : World) : ∀ is : List Nat, (∀ i ∈ is, i < N) →
    (Op.eqItems 9999 5 1 (rawV xs) (rawV ys) is).run Try.prog w = .ok (is.all fun i => xs.getD i 0 == ys.getD i 0) w
  | [], _ => by simp [Op.eqItems]
  | i :: is, h => by
    have hi := h i (List.mem_cons_self ..)
    have ih := eqIt_any xs ys N hl hm w is fun j hj => h j (List.mem_cons_of_mem _ hj)
    have ha : ∀ w, (isAgg 5).run Try.prog w = .ok false w := fun w => by kernel_rfl
    have h1 := rawV_get xs (i := i) (by omega)
    have h2 := rawV_get ys (i := i) (by omega)
    have he : ∀ w, (Op.equalIn 9999 5 (.int .u8 ((xs.getD i 0).toNat : Int)) (.int .u8 ((ys.getD i 0).toNat : Int))).run Try.prog w = .ok (((xs.getD i 0).toNat : Int) == ((ys.getD i 0).toNat : Int)) w := fun w => run_equalIn_int w 9998 5 .u8 .u8 _ _ Try.underlying5
    have hb : (((xs.getD i 0).toNat : Int) == ((ys.getD i 0).toNat : Int)) = (xs.getD i 0 == ys.getD i 0) := by
      rw [Bool.eq_iff_iff, beq_iff_eq, beq_iff_eq, ← UInt8.toNat_inj]
      exact Int.natCast_inj
    simp only [Op.eqItems, Sem.run_bind, part, ha, Result.andThen_ok, Nat.mul_one, h1, h2, Bool.false_eq_true, if_false, Sem.run_pure, he, hb, List.all_cons]
    cases xs.getD i 0 == ys.getD i 0
    · simp
    · simpa using ih
theorem all_eqN (xs ys : List UInt8) (N : Nat) (hl : xs.length = N) (hm : ys.length = N) : ((List.range N).all fun i => xs.getD i 0 == ys.getD i 0) = decide (xs = ys) := by
  rw [Bool.eq_iff_iff, List.all_eq_true, decide_eq_true_eq]
  constructor
  · intro h
    refine List.ext_getElem (by rw [hl, hm]) fun i h1 h2 => ?_
    have h3 := h i (List.mem_range.2 (by omega))
    rw [beq_iff_eq, List.getD_eq_getElem?_getD, List.getD_eq_getElem?_getD, List.getElem?_eq_getElem h1, List.getElem?_eq_getElem h2] at h3
    simpa using h3
  · rintro rfl i _
    exact beq_self_eq_true _
theorem eqIt72a (xs ys : List UInt8) (hl : xs.length = 72) (hm : ys.length = 72) (w : World) : ∀ is : List Nat, (∀ i ∈ is, i < 72) →
    (Op.eqItems 9999 5 1 (rawV xs) (rawV ys) is).run Try.prog w = .ok (is.all fun i => xs.getD i 0 == ys.getD i 0) w := eqIt_any xs ys 72 hl hm w
theorem eqR72a (xs ys : List UInt8) (hl : xs.length = 72) (hm : ys.length = 72) (w : World) : (Op.equalIn 10000 41 (.agg (rawV xs)) (.agg (rawV ys))).run Try.prog w = .ok (decide (xs = ys)) w := by
  obtain ⟨i, hi⟩ : ∃ i, Try.prog.info? 5 = some i := Option.isSome_iff_exists.1 (by kernel_rfl)
  rw [run_equalIn_array w 9999 (rawV xs) (rawV ys) Try.underlying41 hi, show Try.prog.cellsOf 5 = 1 by kernel_rfl, eqIt72a xs ys hl hm w _ fun i hi => List.mem_range.1 hi, all_eqN xs ys 72 hl hm]
theorem eq_rawO (xs ys : List UInt8) (hl : xs.length = 72) (hm : ys.length = 72) (x y : Operand) (w : World) : (do eqGuard .eql 41 x y (.agg (rawV xs)) (.agg (rawV ys)); Go.binOp .eql 41 (.agg (rawV xs)) (.agg (rawV ys)) : Sem Value).run Try.prog w = .ok (.bool (decide (xs = ys))) w := by
  have h := eqR72a xs ys hl hm w
  have g : Try.prog.eqGuardType Try.prog.depth 41 = false := by kernel_rfl
  simp [eqGuard, Go.binOp, Op.equal, Op.maxDepth, Sem.run_bind, g, h]
theorem neq_rawO (xs ys : List UInt8) (hl : xs.length = 72) (hm : ys.length = 72) (x y : Operand) (w : World) : (do eqGuard .neq 41 x y (.agg (rawV xs)) (.agg (rawV ys)); Go.binOp .neq 41 (.agg (rawV xs)) (.agg (rawV ys)) : Sem Value).run Try.prog w = .ok (.bool (!decide (xs = ys))) w := by
  have h := eqR72a xs ys hl hm w
  have g : Try.prog.eqGuardType Try.prog.depth 41 = false := by kernel_rfl
  simp [eqGuard, Go.binOp, Op.equal, Op.maxDepth, Sem.run_bind, g, h]
theorem eqIt72b (xs ys : List UInt8) (hl : xs.length = 72) (hm : ys.length = 72) (w : World) : ∀ is : List Nat, (∀ i ∈ is, i < 72) →
    (Op.eqItems 9999 5 1 (rawV xs) (rawV ys) is).run Try.prog w = .ok (is.all fun i => xs.getD i 0 == ys.getD i 0) w := eqIt_any xs ys 72 hl hm w
theorem eqR72b (xs ys : List UInt8) (hl : xs.length = 72) (hm : ys.length = 72) (w : World) : (Op.equalIn 10000 40 (.agg (rawV xs)) (.agg (rawV ys))).run Try.prog w = .ok (decide (xs = ys)) w := by
  obtain ⟨i, hi⟩ : ∃ i, Try.prog.info? 5 = some i := Option.isSome_iff_exists.1 (by kernel_rfl)
  rw [run_equalIn_array w 9999 (rawV xs) (rawV ys) Try.underlying40 hi, show Try.prog.cellsOf 5 = 1 by kernel_rfl, eqIt72b xs ys hl hm w _ fun i hi => List.mem_range.1 hi, all_eqN xs ys 72 hl hm]
theorem eq_rawO2 (xs ys : List UInt8) (hl : xs.length = 72) (hm : ys.length = 72) (x y : Operand) (w : World) : (do eqGuard .eql 40 x y (.agg (rawV xs)) (.agg (rawV ys)); Go.binOp .eql 40 (.agg (rawV xs)) (.agg (rawV ys)) : Sem Value).run Try.prog w = .ok (.bool (decide (xs = ys))) w := by
  have h := eqR72b xs ys hl hm w
  have g : Try.prog.eqGuardType Try.prog.depth 40 = false := by kernel_rfl
  simp [eqGuard, Go.binOp, Op.equal, Op.maxDepth, Sem.run_bind, g, h]
theorem neq_rawO2 (xs ys : List UInt8) (hl : xs.length = 72) (hm : ys.length = 72) (x y : Operand) (w : World) : (do eqGuard .neq 40 x y (.agg (rawV xs)) (.agg (rawV ys)); Go.binOp .neq 40 (.agg (rawV xs)) (.agg (rawV ys)) : Sem Value).run Try.prog w = .ok (.bool (!decide (xs = ys))) w := by
  have h := eqR72b xs ys hl hm w
  have g : Try.prog.eqGuardType Try.prog.depth 40 = false := by kernel_rfl
  simp [eqGuard, Go.binOp, Op.equal, Op.maxDepth, Sem.run_bind, g, h]
end Go.Proofs.Ytckhkagkpldoiaa
