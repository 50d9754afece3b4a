/- DramLater. -/
import Derived.Test.YtckhkagkpldoiaaDrL
import Derived.Test.YtckhkagkpldoiaaDrP
namespace Go.Proofs.Ytckhkagkpldoiaa.E
open Go Go.RowKit Go.Shelf
set_option linter.unusedVariables false
theorem dlater_true {r s n m c mode : Int} {a b : Fa} {u0 u1 u2 u3 : Int} {xs : List UInt8} (lx : xs.length = 72) (hm : rightB mode = true) : dlater_0 r s n m c mode a b u0 u1 u2 u3 xs = true := by
  have hm2 : mode = 1 ∨ mode = 2 := by
    unfold rightB at hm
    simpa using hm
  unfold dlater_0
  refine bif_t fun hT => ?_
  simp only [Bool.or_eq_false_iff, Bool.not_eq_false', bne_eq_false_iff_eq] at hT
  obtain ⟨⟨⟨⟨⟨hi, hla⟩, hlb⟩, hnb⟩, hyb⟩, hc⟩ := hT
  have key : frF (D0 r s n m c mode) a = true → frF (D0 r s n m c mode) b = true → _ := fun hra hrb =>
    (show injD (injD (D0 r s n m c mode) a) b = { D0 r s n m c mode with lasts := [a, b] } ∧ dInject_0 (D0 r s n m c mode) a = 0 ∧ dInject_0 (injD (D0 r s n m c mode) a) b = 0 by
      obtain ⟨h1, h2⟩ := inj_last hra hla (Nat.zero_lt_succ 255)
      obtain ⟨h3, h4⟩ := inj_last (D := { D0 r s n m c mode with lasts := [a] }) (f := b) hrb hlb (by simp)
      rw [h1]
      exact ⟨h3, h2, h4⟩)
  have neg : ∀ {x y : Bool}, ¬ (x = true ∧ y = true) → ((!x) || (!y)) = true := fun {x y} h => by cases x <;> cases y <;> simp_all
  refine bif_2 (fun h1 => neg fun h => ?_) fun h1 => bif_2 (fun h2 => neg fun h => ?_) fun h2 => ?_
  · rw [(key h.1 h.2).2.1] at h1; cases h1
  · rw [(key h.1 h.2).2.2] at h2; cases h2
  have ha : frF (D0 r s n m c mode) a = true := by
    cases hf : frF (D0 r s n m c mode) a
    · have hf2 := hf
      unfold frF at hf2
      unfold dInject_0 at h1
      rw [hf2] at h1
      cases h1
    · rfl
  have hb : frF (D0 r s n m c mode) b = true := by
    cases hf : frF (D0 r s n m c mode) b
    · have hf2 := hf
      unfold frF at hf2
      obtain ⟨e1, _⟩ := inj_last ha hla (Nat.zero_lt_succ 255)
      rw [e1] at h2
      unfold dInject_0 at h2
      rw [show ({ D0 r s n m c mode with lasts := (D0 r s n m c mode).lasts ++ [a] } : Dr).g0 = (D0 r s n m c mode).g0 from rfl, show ({ D0 r s n m c mode with lasts := (D0 r s n m c mode).lasts ++ [a] } : Dr).g1 = (D0 r s n m c mode).g1 from rfl, show ({ D0 r s n m c mode with lasts := (D0 r s n m c mode).lasts ++ [a] } : Dr).g2 = (D0 r s n m c mode).g2 from rfl, show ({ D0 r s n m c mode with lasts := (D0 r s n m c mode).lasts ++ [a] } : Dr).g3 = (D0 r s n m c mode).g3 from rfl, show ({ D0 r s n m c mode with lasts := (D0 r s n m c mode).lasts ++ [a] } : Dr).g4 = (D0 r s n m c mode).g4 from rfl, show ({ D0 r s n m c mode with lasts := (D0 r s n m c mode).lasts ++ [a] } : Dr).mode = (D0 r s n m c mode).mode from rfl, hf2] at h2
      cases h2
    · rfl
  obtain ⟨e, _, _⟩ := key ha hb
  rw [e]
  obtain ⟨g4, g0, g1, g2, g3⟩ := gat_of hi
  obtain ⟨ew, _⟩ := wr_at (D := { D0 r s n m c mode with lasts := [a, b] }) rfl g4 xs
  rw [ew]
  obtain ⟨e0, _, _, e3⟩ := rd_at (D := { D0 r s n m c mode with lasts := [a, b], cells := upI (D0 r s n m c mode).cells (gindex_0 r s n m c u0 u1 u2 u3) xs }) rfl g4
  refine Bool.and_eq_true_iff.2 ⟨(congrArg (fun z => z == (0 : Int)) e3).trans rfl, decide_eq_true ?_⟩
  refine e0.trans ?_
  show ovF [a, b] mode (gat_0 r s n m c _) (gat_1 r s n m c _) (gat_2 r s n m c _) (gat_3 r s n m c _) (upI _ _ xs _) 2 = _
  rw [g0, g1, g2, g3, upI_at]
  exact fa_later hm2 lx hlb hnb hyb hc
end Go.Proofs.Ytckhkagkpldoiaa.E
namespace Go.Proofs.Ytckhkagkpldoiaa
open Go Go.RowKit Go.Shelf
theorem DramLater_any (z0 z1 z2 z3 z4 mode x0 x1 x2 x3 x4 x5 x6 x7 y0 y1 y2 y3 y4 y5 y6 y7 u0 u1 u2 u3 : Int) (xs : List UInt8) (lx : xs.length = 72) (hx : -9223372036854775808 ≤ x6) (hx' : x6 ≤ 9223372036854775807) (hy : -9223372036854775808 ≤ y6) (hy' : y6 ≤ 9223372036854775807) (w : World) :
    Calls Try.prog 12 #[.agg #[.int .i64 z0, .int .i64 z1, .int .i64 z2, .int .i64 z3, .int .i64 z4], .int .i64 mode, .agg #[.int .i64 x0, .int .i64 x1, .int .i64 x2, .int .i64 x3, .int .i64 x4, .int .i64 x5, .int .i64 x6, .int .i64 x7], .agg #[.int .i64 y0, .int .i64 y1, .int .i64 y2, .int .i64 y3, .int .i64 y4, .int .i64 y5, .int .i64 y6, .int .i64 y7], .agg #[.int .i64 u0, .int .i64 u1, .int .i64 u2, .int .i64 u3], .agg (rawV xs)] w
      fun e w' => e = .returned (.bool true) ∧ Below w.heap.size w w' := by
  rw [← E.rB_raw (n := 72) (xs := xs) lx]
  cases hg : gright z0 z1 z2 z3 z4
  · exact (E.dlaterG z0 z1 z2 z3 z4 mode ⟨x0, x1, x2, x3, x4, x5, x6, x7⟩ ⟨y0, y1, y2, y3, y4, y5, y6, y7⟩ u0 u1 u2 u3 xs lx hg).below w
  cases hm : rightB mode
  · exact (E.dlaterM z0 z1 z2 z3 z4 mode ⟨x0, x1, x2, x3, x4, x5, x6, x7⟩ ⟨y0, y1, y2, y3, y4, y5, y6, y7⟩ u0 u1 u2 u3 xs lx hg hm).below w
  have h := (E.dlater z0 z1 z2 z3 z4 mode ⟨x0, x1, x2, x3, x4, x5, x6, x7⟩ ⟨y0, y1, y2, y3, y4, y5, y6, y7⟩ u0 u1 u2 u3 xs lx ⟨hx, hx'⟩ ⟨hy, hy'⟩ hg hm).below w
  rwa [E.dlater_true lx hm] at h
end Go.Proofs.Ytckhkagkpldoiaa
