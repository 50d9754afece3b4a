/- Two raw bytes compared. -/
import Derived.Test.YtckhkagkpldoiaaArrO
import Derived.Test.YtckhkagkpldoiaaRawW
import Derived.WalkKit
import Derived.Laws.StructEq
import Derived.ChangeKeysEq
import Derived.OwnWalkIn
import Derived.TacticsInMore
namespace Go.Proofs.Ytckhkagkpldoiaa
open Go.RowKit

theorem eqItems_raw (xs ys : List UInt8) (hl : xs.length = 72) (hm : ys.length = 72) (w : World) : ∀ is : List Nat, (∀ i ∈ is, i < 72) →
    (Op.eqItems 9999 5 1 (rawV xs) (rawV ys) is).run Try.prog w = .ok (is.all fun i => xs.getD i 0 == ys.getD i 0) w
  | [], _ => by simp [Op.eqItems]
  | i :: is, h => by
    have hi := h i (List.mem_cons_self ..)
    have ih := eqItems_raw xs ys hl hm w is fun j hj => h j (List.mem_cons_of_mem _ hj)
    have ha : ∀ w, (isAgg 5).run Try.prog w = .ok false w := fun w => by kernel_rfl
    have h1 := rawV_get xs (i := i) (by omega)
    have h2 := rawV_get ys (i := i) (by omega)
    have he : ∀ w, (Op.equalIn 9999 5 (.int .u8 ((xs.getD i 0).toNat : Int)) (.int .u8 ((ys.getD i 0).toNat : Int))).run Try.prog w = .ok (((xs.getD i 0).toNat : Int) == ((ys.getD i 0).toNat : Int)) w := fun w => run_equalIn_int w 9998 5 .u8 .u8 _ _ Try.underlying5
    have hb : (((xs.getD i 0).toNat : Int) == ((ys.getD i 0).toNat : Int)) = (xs.getD i 0 == ys.getD i 0) := by
      rw [Bool.eq_iff_iff, beq_iff_eq, beq_iff_eq, ← UInt8.toNat_inj]
      exact Int.natCast_inj
    simp only [Op.eqItems, Sem.run_bind, part, ha, Result.andThen_ok, Nat.mul_one, h1, h2, Bool.false_eq_true, if_false, Sem.run_pure, he, hb, List.all_cons]
    cases xs.getD i 0 == ys.getD i 0
    · simp
    · simpa using ih
theorem all_raw (xs ys : List UInt8) (hl : xs.length = 72) (hm : ys.length = 72) : ((List.range 72).all fun i => xs.getD i 0 == ys.getD i 0) = decide (xs = ys) := by
  rw [Bool.eq_iff_iff, List.all_eq_true, decide_eq_true_eq]
  constructor
  · intro h
    refine List.ext_getElem (by rw [hl, hm]) fun i h1 h2 => ?_
    have h3 := h i (List.mem_range.2 (by omega))
    rw [beq_iff_eq, List.getD_eq_getElem?_getD, List.getD_eq_getElem?_getD, List.getElem?_eq_getElem h1, List.getElem?_eq_getElem h2] at h3
    simpa using h3
  · rintro rfl i _
    exact beq_self_eq_true _
theorem eq_raw (xs ys : List UInt8) (hl : xs.length = 72) (hm : ys.length = 72) (w : World) :
    (Op.equalIn 10000 41 (.agg (rawV xs)) (.agg (rawV ys))).run Try.prog w = .ok (decide (xs = ys)) w := by
  obtain ⟨i, hi⟩ : ∃ i, Try.prog.info? 5 = some i := Option.isSome_iff_exists.1 (by kernel_rfl)
  rw [run_equalIn_array w 9999 (rawV xs) (rawV ys) Try.underlying41 hi, show Try.prog.cellsOf 5 = 1 by kernel_rfl, eqItems_raw xs ys hl hm w _ fun i hi => List.mem_range.1 hi, all_raw xs ys hl hm]
theorem guard_raw : Try.prog.eqGuardType Try.prog.depth 41 = false := by kernel_rfl
/-- A guarded load inside a fence, its guard held. -/
theorem wpListIn_load_want {F : Fence} {n : Nat} {P : Program} {ops : Array Oper} {Q : Exit → Act → World → Prop} {a : Act} {w : World} {rest : List Oper} {o : Oper} (hw : Region.wanted o (yielded ops a.tmps) = true) (ty : TypeId) (x : Operand) (ho : o.op = .load ty x) (p : Addr)
    (hx : a.eval x = .pointer (some p)) (v : Value) (hr : (loadVar ty p).run P w = .ok v w) (h : wpListIn F n P ops Q rest (a.put o.dst v) w) : wpListIn F n P ops Q (o :: rest) a w := by
  refine wpListIn_step fun K hK => ?_
  rw [hw, if_pos rfl]
  unfold Oper.wpIn
  refine ⟨fun f hf => by simp [Oper.about, ho] at hf, ?_⟩
  rw [Oper.semAt_plain F a.eval o (fun c hc => by rw [ho] at hc; cases hc)]
  unfold execOp
  simp only [ho, hx, Instr.loadAt, Instr.sureAddr, Sem.run_bind, Sem.run_pure, Result.andThen_ok, hr]
  exact hK _ _ h
end Go.Proofs.Ytckhkagkpldoiaa
