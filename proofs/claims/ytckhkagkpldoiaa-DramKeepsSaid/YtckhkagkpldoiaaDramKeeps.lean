/- DramKeeps. -/
import Derived.Test.YtckhkagkpldoiaaDrP
import Derived.Test.YtckhkagkpldoiaaDrK
import Derived.Test.YtckhkagkpldoiaaErO
namespace Go.Proofs.Ytckhkagkpldoiaa.E
open Go
set_option linter.unusedVariables false
/-- Chips without faults, of one geometry, that hold y at i. -/
structure KI (D0 D : Dr) (i : Int) (y : List UInt8) : Prop where
  g0 : D.g0 = D0.g0
  g1 : D.g1 = D0.g1
  g2 : D.g2 = D0.g2
  g3 : D.g3 = D0.g3
  g4 : D.g4 = D0.g4
  c : D.coming = []
  l : D.lasts = []
  y : D.cells i = y
theorem wr_none {D : Dr} (h : D.coming = []) (j : Int) (r : List UInt8) : wrD D j r = bif (gat_4 D.g0 D.g1 D.g2 D.g3 D.g4 j != 0) then D else { D with cells := upI D.cells j r } := by
  obtain ⟨h1, h2, h3⟩ := went_none h
  unfold wrD
  rw [h1, h2, h3]
  rfl
theorem rd_none {D : Dr} (h : D.coming = []) (j : Int) : rdD D j = D := by
  obtain ⟨h1, _, _⟩ := went_none h
  unfold rdD
  rw [h1]
  cases gat_4 D.g0 D.g1 D.g2 D.g3 D.g4 j != 0 <;> rfl
theorem err_iff (D : Dr) (j : Int) : (dWrite_2 D j == 0) = !(gat_4 D.g0 D.g1 D.g2 D.g3 D.g4 j != 0) := by
  unfold dWrite_2
  cases h : gat_4 D.g0 D.g1 D.g2 D.g3 D.g4 j != 0
  · rfl
  · simp only [cond_true]
    have : gat_4 D.g0 D.g1 D.g2 D.g3 D.g4 j ≠ 0 := by simpa using h
    simp [this]
theorem KI.step {D0 D : Dr} {ops : List Op5} {i : Int} {xs : List UInt8} (h0 : KI D0 D i xs) : ∀ k, KI D0 (kD D ops k) i (kL D ops i xs k)
  | 0 => h0
  | k + 1 => by
    have h := KI.step (ops := ops) h0 k
    unfold kD kL
    cases (ops.getD k zOp).kind == 2
    · cases (ops.getD k zOp).kind == 3
      · exact h
      · simp only [cond_false, cond_true]
        rw [rd_none h.c]
        exact h
    · simp only [cond_true]
      rw [wr_none h.c, err_iff]
      cases gat_4 (kD D ops k).g0 (kD D ops k).g1 (kD D ops k).g2 (kD D ops k).g3 (kD D ops k).g4 (ops.getD k zOp).index != 0
      · simp only [cond_false, Bool.not_false, Bool.true_and]
        refine ⟨h.g0, h.g1, h.g2, h.g3, h.g4, h.c, h.l, ?_⟩
        show upI _ _ _ i = _
        unfold upI
        cases hb : (ops.getD k zOp).index == i
        · rw [if_neg (fun e => by rw [e] at hb; simp at hb)]
          exact h.y
        · rw [if_pos (eq_of_beq hb).symm]
          rfl
      · exact h
theorem dkeeps_true {r s n m c mode : Int} {ops : List Op5} {i : Int} {xs : List UInt8} : dkeeps_0 r s n m c mode ops i xs = true := by
  unfold dkeeps_0
  refine bif_t fun _ => bif_2 (fun h => ?_) fun h => ?_
  · unfold dWrite_2 gat_4 at h ⊢
    revert h
    generalize (decide (i < 0) || (!(gholds (D0 r s n m c mode).g0 (D0 r s n m c mode).g1 (D0 r s n m c mode).g2 (D0 r s n m c mode).g3 (D0 r s n m c mode).g4 (i / 2 ^ 20) (i / 2 ^ 16 % 16) (i / 2 ^ 6 % 1024) (i % 64)))) = B
    cases B <;> decide
  · have hg : gat_4 r s n m c i = 0 := by
      have h1 : (dWrite_2 (D0 r s n m c mode) i == 0) = true := by rw [← Bool.not_eq_false', ← h]; simp [bne]
      rw [err_iff] at h1
      simpa [D0] using h1
    have hw : wrD (D0 r s n m c mode) i xs = { D0 r s n m c mode with cells := upI (D0 r s n m c mode).cells i xs } := (wr_at (D := D0 r s n m c mode) rfl hg xs).1
    have h0 : KI (D0 r s n m c mode) (wrD (D0 r s n m c mode) i xs) i xs := by
      rw [hw]
      exact ⟨rfl, rfl, rfl, rfl, rfl, rfl, rfl, upI_at _ _ _⟩
    have hk := KI.step (ops := ops) h0 ops.length
    obtain ⟨e0, e1, e2, e3⟩ := rd_at (D := kD (wrD (D0 r s n m c mode) i xs) ops ops.length) (i := i) hk.c (by rw [hk.g0, hk.g1, hk.g2, hk.g3, hk.g4]; exact hg)
    rw [e0, e1, e2, e3, hk.l, ← hk.y]
    simp [ovF]
end Go.Proofs.Ytckhkagkpldoiaa.E
namespace Go.Proofs.Ytckhkagkpldoiaa
open Go Go.ChangeShapes Go.WideShapes Go.RowKit Go.Shelf
theorem DramKeeps_any (z0 z1 z2 z3 z4 mode : Int) (A : Option Addr) (n c : Nat) (L : List E.Op5) (hl : L.length = n) (hx : E.opsOk L) (i : Int) (xs : List UInt8) (lx : xs.length = 72) (w : World) (hr : RdS 83 w A (L.map E.eOp)) :
    Calls Try.prog 8 #[.agg #[.int .i64 z0, .int .i64 z1, .int .i64 z2, .int .i64 z3, .int .i64 z4], .int .i64 mode, .slice A n c, .int .i64 i, .agg (rawV xs)] w
      fun e w' => e = .returned (.bool true) ∧ Below w.heap.size w w' := by
  rw [← E.rB_raw (n := 72) (xs := xs) lx]
  obtain ⟨bs, hb, hs⟩ := E.rdS_sr (en := E.eOp) (k := 83) (c := c) (fun _ => rfl) (by decide) hr hl
  cases hg : gright z0 z1 z2 z3 z4
  · exact (E.dkeepsG z0 z1 z2 z3 z4 mode _ L i xs lx bs hs hg).belowR w hb
  cases hm : rightB mode
  · exact (E.dkeepsM z0 z1 z2 z3 z4 mode _ L i xs lx bs hs hg hm).belowR w hb
  have h := (E.dkeeps z0 z1 z2 z3 z4 mode _ L i xs lx hx bs hs hg hm).belowR w hb
  rwa [E.dkeeps_true] at h
end Go.Proofs.Ytckhkagkpldoiaa
