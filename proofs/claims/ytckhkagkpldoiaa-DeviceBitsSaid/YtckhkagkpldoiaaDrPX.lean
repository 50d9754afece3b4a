/- Several texts in one: FltB DrP. -/
import Derived.Test.YtckhkagkpldoiaaCovA
import Derived.Test.YtckhkagkpldoiaaFlX
import Derived.Test.YtckhkagkpldoiaaDrH
namespace Go.Proofs.Ytckhkagkpldoiaa.E
open Go
set_option linter.unusedVariables false
section
variable {k p0 p1 p2 p3 c b v mode q0 q1 q2 q3 : Int} {xs : List UInt8}
end
end Go.Proofs.Ytckhkagkpldoiaa.E
namespace Go.Proofs.Ytckhkagkpldoiaa.E
open Go
set_option linter.unusedVariables false
/-- A place's index, and back. -/
theorem gat_of {r s n m c u0 u1 u2 u3 : Int} (h : gindex_1 r s n m c u0 u1 u2 u3 = 0) :
    gat_4 r s n m c (gindex_0 r s n m c u0 u1 u2 u3) = 0 ∧ gat_0 r s n m c (gindex_0 r s n m c u0 u1 u2 u3) = u0 ∧ gat_1 r s n m c (gindex_0 r s n m c u0 u1 u2 u3) = u1 ∧ gat_2 r s n m c (gindex_0 r s n m c u0 u1 u2 u3) = u2 ∧ gat_3 r s n m c (gindex_0 r s n m c u0 u1 u2 u3) = u3 := by
  have hh : gholds r s n m c u0 u1 u2 u3 = true := by
    unfold gindex_1 at h
    cases hb : gholds r s n m c u0 u1 u2 u3
    · rw [hb] at h; exact absurd h (by decide)
    · rfl
  have hi : gindex_0 r s n m c u0 u1 u2 u3 = pidx u0 u1 u2 u3 := by unfold gindex_0; rw [hh]; rfl
  obtain ⟨⟨a0, b0⟩, ⟨a1, b1⟩, ⟨a2, b2⟩, a3, b3⟩ := gholds_bd hh
  have e0 : pidx u0 u1 u2 u3 / 2 ^ 20 = u0 := by unfold pidx; omega
  have e1 : pidx u0 u1 u2 u3 / 2 ^ 16 % 16 = u1 := by unfold pidx; omega
  have e2 : pidx u0 u1 u2 u3 / 2 ^ 6 % 1024 = u2 := by unfold pidx; omega
  have e3 : pidx u0 u1 u2 u3 % 64 = u3 := by unfold pidx; omega
  have hp : decide (pidx u0 u1 u2 u3 < 0) = false := decide_eq_false (by unfold pidx; omega)
  rw [hi]
  unfold gat_0 gat_1 gat_2 gat_3 gat_4
  rw [e0, e1, e2, e3, hh, hp]
  exact ⟨rfl, rfl, rfl, rfl, rfl⟩
/-- Nothing is to come. -/
theorem went_none {D : Dr} (h : D.coming = []) : dwD D = D ∧ dwent_1 D = false ∧ ∀ i, dwent_0 D i = i := by
  unfold dwD dwent_1 dwent_0
  rw [h]
  exact ⟨rfl, rfl, fun _ => rfl⟩
theorem wr_at {D : Dr} {i : Int} (h : D.coming = []) (hi : gat_4 D.g0 D.g1 D.g2 D.g3 D.g4 i = 0) (r : List UInt8) : wrD D i r = { D with cells := upI D.cells i r } ∧ dWrite_2 D i = 0 := by
  obtain ⟨h1, h2, h3⟩ := went_none h
  unfold wrD dWrite_2
  rw [h1, h2, h3, hi]
  exact ⟨rfl, rfl⟩
theorem look_at {D : Dr} {i : Int} (hi : gat_4 D.g0 D.g1 D.g2 D.g3 D.g4 i = 0) : dLook_0 D i = ovF D.lasts D.mode (gat_0 D.g0 D.g1 D.g2 D.g3 D.g4 i) (gat_1 D.g0 D.g1 D.g2 D.g3 D.g4 i) (gat_2 D.g0 D.g1 D.g2 D.g3 D.g4 i) (gat_3 D.g0 D.g1 D.g2 D.g3 D.g4 i) (D.cells i) D.lasts.length ∧ dLook_1 D i = 0 := by
  unfold dLook_0 dLook_1
  rw [hi]
  exact ⟨rfl, rfl⟩
theorem rd_at {D : Dr} {i : Int} (h : D.coming = []) (hi : gat_4 D.g0 D.g1 D.g2 D.g3 D.g4 i = 0) : dRead_0 D i = ovF D.lasts D.mode (gat_0 D.g0 D.g1 D.g2 D.g3 D.g4 i) (gat_1 D.g0 D.g1 D.g2 D.g3 D.g4 i) (gat_2 D.g0 D.g1 D.g2 D.g3 D.g4 i) (gat_3 D.g0 D.g1 D.g2 D.g3 D.g4 i) (D.cells i) D.lasts.length ∧ dRead_1 D i = i ∧ dRead_2 D i = false ∧ dRead_3 D i = 0 := by
  obtain ⟨h1, h2, h3⟩ := went_none h
  unfold dRead_0 dRead_1 dRead_2 dRead_3
  rw [h1, h2, h3, hi]
  exact ⟨(look_at hi).1, rfl, rfl, (look_at hi).2⟩
theorem upI_at {α : Type} (f : Int → α) (i : Int) (a : α) : upI f i a i = a := if_pos rfl
end Go.Proofs.Ytckhkagkpldoiaa.E
