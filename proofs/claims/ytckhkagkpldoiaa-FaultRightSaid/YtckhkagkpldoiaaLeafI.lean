/- Structs of ints among the arguments. No program in sight. -/
import Derived.Test.YtckhkagkpldoiaaLeaf
namespace Go.Proofs.Ytckhkagkpldoiaa
open Go Go.ChangeShapes Go.WideShapes Go.RowKit Go.Deep

theorem wf_i64 {z : Int} (h : (Lit.int .i64 z).wf = true) : -9223372036854775808 ≤ z ∧ z ≤ 9223372036854775807 := by
  have := bounds_i64 h
  omega
/-- Cells that are all ints. -/
theorem cells_ints : ∀ (n : Nat) (cs : List Value), CellsOk (List.replicate n (.int .i64)) cs → ∃ zs : List Int, zs.length = n ∧ cs = zs.map (fun z => Value.int .i64 z) ∧ ∀ z ∈ zs, -9223372036854775808 ≤ z ∧ z ≤ 9223372036854775807
  | 0, cs, h => ⟨[], rfl, by have := h.1; simp at this; simpa using this, by simp⟩
  | n + 1, cs, h => by
    obtain ⟨h1, h2⟩ := h
    cases cs with
    | nil => simp at h1
    | cons c cs =>
      obtain ⟨v, e1, z, e2, e3⟩ := h2 0 (.int .i64) (by simp)
      obtain ⟨zs, e4, e5, e6⟩ := cells_ints n cs ⟨by simpa using h1, fun i lf hi => by simpa using h2 (i + 1) lf (by rw [List.replicate_succ, List.getElem?_cons_succ]; exact hi)⟩
      simp only [List.getElem?_cons_zero, Option.some.injEq] at e1
      subst e1
      subst e2
      refine ⟨z :: zs, by simp [e4], by simp [e5], fun y hy => ?_⟩
      rcases List.mem_cons.1 hy with rfl | hy
      · exact wf_i64 e3
      · exact e6 y hy
theorem list4 {l : List Int} (h : l.length = 4) : ∃ a b c d, l = [a, b, c, d] := by
  match l, h with
  | [a, b, c, d], _ => exact ⟨a, b, c, d, rfl⟩
theorem list5 {l : List Int} (h : l.length = 5) : ∃ a b c d e, l = [a, b, c, d, e] := by
  match l, h with
  | [a, b, c, d, e], _ => exact ⟨a, b, c, d, e, rfl⟩
theorem list8 {l : List Int} (h : l.length = 8) : ∃ a b c d e f g i, l = [a, b, c, d, e, f, g, i] := by
  match l, h with
  | [a, b, c, d, e, f, g, i], _ => exact ⟨a, b, c, d, e, f, g, i, rfl⟩
end Go.Proofs.Ytckhkagkpldoiaa
