/- Arrays in blocks of their own: whole rows that are loaded and stored. No program in sight. -/
import Derived.Test.YtckhkagkpldoiaaMemP
import Derived.Laws.Rows
import Derived.Laws.CopyRow
import Derived.Laws.CopyOwn
import Derived.OwnWalkIn
import Derived.TacticsInMore
namespace Go.Proofs.Ytckhkagkpldoiaa
open Go Go.RowKit

section
variable {w : World} {g : Nat} {t : TypeId} {cs cur : Array Value}
theorem Blk.setRow (h : Blk w g t cur) (cs : Array Value) : Blk (w.setRow g cs) g t cs := setRow_heap w g cur cs t (0, 0) h
theorem Blk.farRow (h : Blk w g t cs) {k : Nat} (hk : g ≠ k) (c : Array Value) : Blk (w.setRow k c) g t cs := (setRow_other w k g c hk).trans h
/-- A whole row is stored. -/
theorem run_storeRow {P : Program} (hg : Blk w g t cur) (hs : cs.size = cur.size) (h1 : cs.all (·.oneCell') = true) : (storeCells ⟨g, 0, none⟩ cs.toList 0).run P w = .ok () (w.setRow g cs) := by
  have h := run_storeCells_at P g 0 t cs.toList 0 cur w hg (by simp; omega) (fun v hv => (Array.all_eq_true_iff_forall_mem.1 h1) v (by simpa using hv))
  rw [h]
  have e1 : List.take (0 + 0) cur.toList = [] := rfl
  have e2 : List.drop (0 + 0 + cs.toList.length) cur.toList = [] := List.drop_eq_nil_iff.2 (by simp; omega)
  rw [e1, e2, List.nil_append, List.append_nil, Array.toArray_toList]
end

/-- A load and a store inside a fence, by what the variable's load and store run to. -/
theorem wpListIn_load_at {F : Fence} {n : Nat} {P : Program} {ops : Array Oper} {Q : Exit → Act → World → Prop} {a : Act} {w : World} {rest : List Oper} {o : Oper} (hgd : o.guard = none) (ty : TypeId) (x : Operand) (ho : o.op = .load ty x) (p : Addr)
    (hx : a.eval x = .pointer (some p)) (v : Value) (hr : (loadVar ty p).run P w = .ok v w) (h : wpListIn F n P ops Q rest (a.put o.dst v) w) : wpListIn F n P ops Q (o :: rest) a w := by
  refine wpListIn_plain hgd fun K hK => ?_
  unfold Oper.wpIn
  refine ⟨fun f hf => by simp [Oper.about, ho] at hf, ?_⟩
  rw [Oper.semAt_plain F a.eval o (fun c hc => by rw [ho] at hc; cases hc)]
  unfold execOp
  simp only [ho, hx, Instr.loadAt, Instr.sureAddr, Sem.run_bind, Sem.run_pure, Result.andThen_ok, hr]
  exact hK _ _ h
theorem wpListIn_store_at {F : Fence} {n : Nat} {P : Program} {ops : Array Oper} {Q : Exit → Act → World → Prop} {a : Act} {w w' : World} {rest : List Oper} {o : Oper} (hgd : o.guard = none) (ty : TypeId) (x y : Operand) (ho : o.op = .store ty x y) (p : Addr)
    (hx : a.eval x = .pointer (some p)) (v : Value) (hy : a.eval y = v) (hr : (storeVar ty p v).run P w = .ok () w') (h : wpListIn F n P ops Q rest (a.put o.dst undef) w') : wpListIn F n P ops Q (o :: rest) a w := by
  refine wpListIn_plain hgd fun K hK => ?_
  unfold Oper.wpIn
  refine ⟨fun f hf => by simp [Oper.about, ho] at hf, ?_⟩
  rw [Oper.semAt_plain F a.eval o (fun c hc => by rw [ho] at hc; cases hc)]
  unfold execOp
  simp only [ho, hx, hy, Instr.storeAt, Instr.sureAddr, Sem.run_bind, Sem.run_pure, Result.andThen_ok, hr]
  exact hK _ _ h
end Go.Proofs.Ytckhkagkpldoiaa
