/- Arrays in blocks of their own: whole rows that are loaded and stored. No program in sight. -/
import Derived.Test.YtbhonojfglhbeaaMemP
import Derived.Laws.Rows
import Derived.Laws.CopyRow
import Derived.Laws.CopyOwn
namespace Go.Proofs.Ytbhonojfglhbeaa
open Go Go.RowKit

section
variable {w : World} {g : Nat} {t : TypeId} {cs cur : Array Value}
theorem Blk.setRow (h : Blk w g t cur) (cs : Array Value) : Blk (w.setRow g cs) g t cs := setRow_heap w g cur cs t (0, 0) h
theorem Blk.farRow (h : Blk w g t cs) {k : Nat} (hk : g ≠ k) (c : Array Value) : Blk (w.setRow k c) g t cs := (setRow_other w k g c hk).trans h
/-- A whole row is stored. -/
theorem run_storeRow {P : Program} (hg : Blk w g t cur) (hs : cs.size = cur.size) (h1 : cs.all (·.oneCell') = true) : (storeCells ⟨g, 0, none⟩ cs.toList 0).run P w = .ok () (w.setRow g cs) := by
  have h := run_storeCells_at P g 0 t cs.toList 0 cur w hg (by simp; omega) (fun v hv => (Array.all_eq_true_iff_forall_mem.1 h1) v (by simpa using hv))
  rw [h]
  have e1 : List.take (0 + 0) cur.toList = [] := rfl
  have e2 : List.drop (0 + 0 + cs.toList.length) cur.toList = [] := List.drop_eq_nil_iff.2 (by simp; omega)
  rw [e1, e2, List.nil_append, List.append_nil, Array.toArray_toList]
end
end Go.Proofs.Ytbhonojfglhbeaa
