/- A parameter that is a slice of steps. -/
import Derived.Test.YtckhkagkpldoiaaDrK
import Derived.Test.YtckhkagkpldoiaaEr
namespace Go.Proofs.Ytckhkagkpldoiaa.E
open Go Go.ChangeShapes Go.WideShapes Go.RowKit Go.Shelf
set_option linter.unusedVariables false
theorem cells_bytes : ∀ (n : Nat) (cs : List Value), CellsOk (List.replicate n (.int .u8)) cs → ∃ xs : List UInt8, xs.length = n ∧ cs = xs.map (fun x => Value.int .u8 (x.toNat : Int))
  | 0, cs, h => ⟨[], rfl, by have := h.1; simp at this; simpa using this⟩
  | n + 1, cs, h => by
    obtain ⟨h1, h2⟩ := h
    cases cs with
    | nil => simp at h1
    | cons c cs =>
      obtain ⟨v, e1, z, e2, e3⟩ := h2 0 (.int .u8) (by simp)
      obtain ⟨zs, e4, e5⟩ := cells_bytes n cs ⟨by simpa using h1, fun i lf hi => by simpa using h2 (i + 1) lf (by rw [List.replicate_succ, List.getElem?_cons_succ]; exact hi)⟩
      simp only [List.getElem?_cons_zero, Option.some.injEq] at e1
      subst e1
      subst e2
      have hb := bounds_u8 e3
      refine ⟨UInt8.ofNat z.toNat :: zs, by simp [e4], ?_⟩
      have hz : ((UInt8.ofNat z.toNat).toNat : Int) = z := by rw [UInt8.toNat_ofNat']; omega
      rw [List.map_cons, hz, e5]
theorem cells_app {l m : List Leaf} {cs : List Value} (h : CellsOk (l ++ m) cs) : CellsOk l (cs.take l.length) ∧ CellsOk m (cs.drop l.length) := by
  obtain ⟨h1, h2⟩ := h
  rw [List.length_append] at h1
  refine ⟨⟨by rw [List.length_take]; omega, fun i lf hi => ?_⟩, ⟨by rw [List.length_drop]; omega, fun i lf hi => ?_⟩⟩
  · have hlt := (List.getElem?_eq_some_iff.1 hi).1
    obtain ⟨v, e1, e2⟩ := h2 i lf (by rw [List.getElem?_append_left hlt]; exact hi)
    exact ⟨v, by rw [List.getElem?_take_of_lt hlt]; exact e1, e2⟩
  · obtain ⟨v, e1, e2⟩ := h2 (l.length + i) lf (by rw [List.getElem?_append_right (Nat.le_add_right _ _), Nat.add_sub_cancel_left]; exact hi)
    exact ⟨v, by rw [List.getElem?_drop]; exact e1, e2⟩
theorem rB_map {xs : List UInt8} {n : Nat} (h : xs.length = n) : rB n xs = xs.map (fun x => Value.int .u8 (x.toNat : Int)) := by
  have h1 := rowL_sl (e := eB) (d := (0 : UInt8)) h
  rw [show rB n xs = rowL eB 0 n xs from rfl, h1]
  unfold slF
  induction xs generalizing n with
  | nil => rfl
  | cons x xs ih => rw [List.flatMap_cons, List.map_cons, ih rfl (rowL_sl rfl)]; rfl
def opLs : List Leaf := List.replicate 11 (.int .i64) ++ List.replicate 72 (.int .u8)
theorem list11 {l : List Int} (h : l.length = 11) : ∃ a b c d e f g i j k m, l = [a, b, c, d, e, f, g, i, j, k, m] := by
  match l, h with
  | [a, b, c, d, e, f, g, i, j, k, m], _ => exact ⟨a, b, c, d, e, f, g, i, j, k, m, rfl⟩
end Go.Proofs.Ytckhkagkpldoiaa.E
