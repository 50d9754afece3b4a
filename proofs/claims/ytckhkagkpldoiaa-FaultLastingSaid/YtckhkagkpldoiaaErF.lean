/- Parameters that are slices of faults, of bools. -/
import Derived.Test.YtckhkagkpldoiaaDrA
import Derived.Test.YtckhkagkpldoiaaDrB
import Derived.Test.YtckhkagkpldoiaaEr
namespace Go.Proofs.Ytckhkagkpldoiaa.E
open Go Go.ChangeShapes Go.WideShapes Go.RowKit Go.Shelf
set_option linter.unusedVariables false
def faLs : List Leaf := List.replicate 8 (.int .i64)
theorem rows_fa : ∀ (rows : List (List Value)), (∀ r ∈ rows, CellsOk faLs r) → ∃ L : List Fa, rows = L.map eFa ∧ ∀ f ∈ L, FaOk f
  | [], _ => ⟨[], rfl, fun o ho => by simp at ho⟩
  | r :: rows, h => by
    obtain ⟨L, e1, e2⟩ := rows_fa rows fun x hx => h x (List.mem_cons_of_mem _ hx)
    obtain ⟨zs, f1, f2, f3⟩ := cells_ints 8 _ (h r (List.mem_cons_self ..))
    obtain ⟨a, b, c, d, e, f, g, i, rfl⟩ := list8 f1
    refine ⟨⟨a, b, c, d, e, f, g, i⟩ :: L, by rw [e1, f2]; rfl, fun o ho => ?_⟩
    rcases List.mem_cons.1 ho with rfl | ho
    · exact f3 g (by simp)
    · exact e2 o ho
def boLs : List Leaf := [.bool]
theorem rows_bo : ∀ (rows : List (List Value)), (∀ r ∈ rows, CellsOk boLs r) → ∃ L : List Bool, rows = L.map eT ∧ True
  | [], _ => ⟨[], rfl, trivial⟩
  | r :: rows, h => by
    obtain ⟨L, e1, _⟩ := rows_bo rows fun x hx => h x (List.mem_cons_of_mem _ hx)
    obtain ⟨h1, h2⟩ := h r (List.mem_cons_self ..)
    obtain ⟨v, f1, b, f2⟩ := h2 0 .bool rfl
    refine ⟨b :: L, ?_, trivial⟩
    rw [e1, List.map_cons]
    congr 1
    match r, h1, f1 with
    | [x], _, f1 =>
      simp only [List.getElem?_cons_zero, Option.some.injEq] at f1
      rw [f1, f2]
      rfl
end Go.Proofs.Ytckhkagkpldoiaa.E
