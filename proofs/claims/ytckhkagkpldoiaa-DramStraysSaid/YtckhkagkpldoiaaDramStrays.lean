/- DramStrays. -/
import Derived.Test.YtckhkagkpldoiaaDrN
import Derived.Test.YtckhkagkpldoiaaErF
namespace Go.Proofs.Ytckhkagkpldoiaa.E
open Go
set_option linter.unusedVariables false
theorem dstrays_true {r s n m c mode : Int} {fs : List Fa} {i : Int} {rs : List Bool} : dstrays_0 r s n m c mode fs i rs = true := by
  unfold dstrays_0
  refine bif_2 (fun h => h) fun h1 => bif_2 (fun h2 => look_12 h2) fun h2 => ?_
  have HSS := st_si (D := D0 r s n m c mode) (D0_c r s n m c mode) fs fs.length
  have HG : gat_4 r s n m c i = 0 := strays_g HSS.1 (look_err h2)
  have hc := (HSS.1.tcs (i := i) HG rs rs.length).c
  rw [hc, List.length_drop]
  generalize (siW (D0 r s n m c mode) fs fs.length).length = a
  rw [beq_iff_eq]
  omega
end Go.Proofs.Ytckhkagkpldoiaa.E
namespace Go.Proofs.Ytckhkagkpldoiaa
open Go Go.ChangeShapes Go.WideShapes Go.RowKit Go.Shelf
theorem DramStrays_any (z0 z1 z2 z3 z4 mode : Int) (A : Option Addr) (n c : Nat) (L : List E.Fa) (hl : L.length = n) (hx : ∀ f ∈ L, E.FaOk f) (i : Int) (A' : Option Addr) (n' c' : Nat) (R : List Bool) (hl' : R.length = n') (w : World) (hr : RdS 8 w A (L.map E.eFa)) (hr' : RdS 1 w A' (R.map E.eT)) :
    Calls Try.prog 10 #[.agg #[.int .i64 z0, .int .i64 z1, .int .i64 z2, .int .i64 z3, .int .i64 z4], .int .i64 mode, .slice A n c, .int .i64 i, .slice A' n' c'] w
      fun e w' => e = .returned (.bool true) ∧ Below w.heap.size w w' := by
  obtain ⟨b1, hb1, hs1⟩ := E.rdS_sr (en := E.eFa) (k := 8) (c := c) (fun _ => rfl) (by decide) hr hl
  obtain ⟨b2, hb2, hs2⟩ := E.rdS_sr (en := E.eT) (k := 1) (c := c') (fun _ => rfl) (by decide) hr' hl'
  obtain ⟨bs, hb, i1, i2⟩ := E.Has.join hb1 hb2
  have hs := hs1.mono i1
  have hs' := hs2.mono i2
  cases hg : gright z0 z1 z2 z3 z4
  · exact (E.dstraysG z0 z1 z2 z3 z4 mode _ L i _ R bs hs hs' hg).belowR w hb
  cases hm : rightB mode
  · exact (E.dstraysM z0 z1 z2 z3 z4 mode _ L i _ R bs hs hs' hg hm).belowR w hb
  have h := (E.dstrays z0 z1 z2 z3 z4 mode _ L i _ R hx bs hs hs' hg hm).belowR w hb
  rwa [E.dstrays_true] at h
end Go.Proofs.Ytckhkagkpldoiaa
