/- Grow, step by step. No program in sight. -/
import Derived.Test.YtckhkagkpldoiaaMk
namespace Go.Proofs.Ytckhkagkpldoiaa
open Go Go.RowKit

theorem setCell_others {W : World} {p : Addr} {v : Value} {b : Nat} {o : Obj} (h : (W.setCell p v).heap[b]? = some o) (hc : o.isCells = false) : W.heap[b]? = some o := by
  by_cases e : b = p.block
  · subst e
    have hlt : p.block < W.heap.size := by
      have := (Array.getElem?_eq_some_iff.1 h).1
      simpa [World.setCell] using this
    have h2 : W.heap[p.block]? = some W.heap[p.block] := Array.getElem?_eq_getElem hlt
    cases hw : W.heap[p.block] with
    | cells c t f =>
      exfalso
      rw [hw] at h2
      simp only [World.setCell, Array.getElem?_modify, h2] at h
      simp at h
      rw [← h] at hc
      cases hc
    | _ =>
      rw [hw] at h2
      simp only [World.setCell, Array.getElem?_modify, h2] at h
      simp at h
      rw [h2, h]
  · exact (Below.heap_setCell W p v b e).symm.trans h
theorem Grow.refl (K : Nat → Prop) {O : Nat → Prop} {W : World} (h : ∀ b, O b → b < W.heap.size) : Grow K O O W W :=
  ⟨Nat.le_refl _, fun _ _ h => h, h, fun _ o _ h hc => ⟨o, h, hc⟩, fun _ _ _ => rfl⟩
theorem Grow.drewN {K O O' : Nat → Prop} {W W' : World} (h : Grow K O O' W W') (n : Nat) : Grow K O O' W (W'.drewN n) := ⟨h.size, h.old, h.new, h.cells, h.keep⟩
theorem Grow.setCell {K O O' : Nat → Prop} {W W' : World} (h : Grow K O O' W W') {p : Addr} (hp : W.heap.size ≤ p.block ∨ (O p.block ∧ ¬ K p.block)) (v : Value) : Grow K O O' W (W'.setCell p v) := by
  have hs : (W'.setCell p v).heap.size = W'.heap.size := by simp [World.setCell]
  refine ⟨by rw [hs]; exact h.size, h.old, fun b hb => by rw [hs]; exact h.new b hb, fun b o ho hh hc => h.cells b o ho (setCell_others hh hc) hc, fun b hb hk => ?_⟩
  refine (Below.heap_setCell W' p v b (fun e => ?_)).trans (h.keep b hb hk)
  subst e
  rcases hp with hp | ⟨h1, h2⟩
  · omega
  · exact hk.elim (fun h => h h1) h2

end Go.Proofs.Ytckhkagkpldoiaa
