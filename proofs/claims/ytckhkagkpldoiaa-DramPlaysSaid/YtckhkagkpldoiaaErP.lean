/- A parameter that is a slice of steps: with the indices' bounds. -/
import Derived.Test.YtckhkagkpldoiaaErO
import Derived.Test.YtckhkagkpldoiaaRpF
namespace Go.Proofs.Ytckhkagkpldoiaa.E
open Go Go.ChangeShapes Go.WideShapes Go.RowKit Go.Shelf
set_option linter.unusedVariables false
theorem rows_opsI : ∀ (rows : List (List Value)), (∀ r ∈ rows, CellsOk opLs r) → ∃ L : List Op5, rows = L.map eOp ∧ opsIn L
  | [], _ => ⟨[], rfl, fun o ho => by simp at ho⟩
  | r :: rows, h => by
    obtain ⟨L, e1, e2⟩ := rows_opsI rows fun x hx => h x (List.mem_cons_of_mem _ hx)
    obtain ⟨h1, h2⟩ := cells_app (h r (List.mem_cons_self ..))
    obtain ⟨zs, f1, f2, f3⟩ := cells_ints 11 _ h1
    obtain ⟨xs, g1, g2⟩ := cells_bytes 72 _ h2
    obtain ⟨a, b, c, d, e, f, g, i, j, k, m, rfl⟩ := list11 f1
    refine ⟨⟨a, b, c, ⟨d, e, f, g, i, j, k, m⟩, xs⟩ :: L, ?_, ?_⟩
    · rw [e1, List.map_cons]
      congr 1
      rw [← List.take_append_drop (List.replicate 11 (Leaf.int .i64)).length r, f2, g2]
      unfold eOp
      rw [rB_map g1]
      rfl
    · intro o ho
      rcases List.mem_cons.1 ho with rfl | ho
      · exact ⟨g1, f3 k (by simp), (f3 b (by simp)).2⟩
      · exact e2 o ho
end Go.Proofs.Ytckhkagkpldoiaa.E
