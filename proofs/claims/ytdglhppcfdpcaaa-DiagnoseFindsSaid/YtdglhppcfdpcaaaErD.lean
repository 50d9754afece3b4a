/- A parameter that is a slice of ints, or of what was seen. -/
import Derived.Test.YtdglhppcfdpcaaaEr
import Derived.Test.YtdglhppcfdpcaaaTaB
namespace Go.Proofs.Ytdglhppcfdpcaaa.E
open Go Go.ChangeShapes Go.WideShapes Go.RowKit Go.Shelf
set_option linter.unusedVariables false
def inLs : List Leaf := [.int .i64]
theorem rows_in : ∀ (rows : List (List Value)), (∀ r ∈ rows, CellsOk inLs r) → ∃ L : List Int, rows = L.map eI ∧ ∀ b ∈ L, -9223372036854775808 ≤ b ∧ b ≤ 9223372036854775807
  | [], _ => ⟨[], rfl, fun o ho => by simp at ho⟩
  | r :: rows, h => by
    obtain ⟨L, e1, e2⟩ := rows_in rows fun x hx => h x (List.mem_cons_of_mem _ hx)
    obtain ⟨h1, h2⟩ := h r (List.mem_cons_self ..)
    obtain ⟨v, f1, b, f2, f3⟩ := h2 0 (.int .i64) rfl
    have hb := bounds_i64 f3
    refine ⟨b :: L, ?_, fun o ho => ?_⟩
    · rw [e1, List.map_cons]
      congr 1
      match r, h1, f1 with
      | [x], _, f1 =>
        simp only [List.getElem?_cons_zero, Option.some.injEq] at f1
        rw [f1, f2]
        rfl
    · rcases List.mem_cons.1 ho with rfl | ho
      · exact ⟨hb.1, hb.2⟩
      · exact e2 o ho
def snLs : List Leaf := List.replicate 5 (.int .i64)
theorem rows_sn : ∀ (rows : List (List Value)), (∀ r ∈ rows, CellsOk snLs r) → ∃ L : List Sn, rows = L.map eSn ∧ True
  | [], _ => ⟨[], rfl, trivial⟩
  | r :: rows, h => by
    obtain ⟨L, e1, _⟩ := rows_sn rows fun x hx => h x (List.mem_cons_of_mem _ hx)
    obtain ⟨zs, f1, f2, f3⟩ := cells_ints 5 _ (h r (List.mem_cons_self ..))
    obtain ⟨a, b, c, d, e, rfl⟩ := list5 f1
    refine ⟨⟨a, b, c, d, e⟩ :: L, ?_, trivial⟩
    rw [e1, List.map_cons, f2]
    rfl
end Go.Proofs.Ytdglhppcfdpcaaa.E
