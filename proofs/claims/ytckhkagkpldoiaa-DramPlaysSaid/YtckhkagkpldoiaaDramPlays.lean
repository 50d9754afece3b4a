/- DramPlays. -/
import Derived.Test.YtckhkagkpldoiaaRpH
import Derived.Test.YtckhkagkpldoiaaErP
namespace Go.Proofs.Ytckhkagkpldoiaa.E
open Go
set_option linter.unusedVariables false
theorem dplays_true {r s n m c mode : Int} {ops : List Op5} {i : Int} (hops : opsIn ops) : dplays_0 r s n m c mode ops i = true := by
  unfold dplays_0
  have HP := (Rs0_rp r s n m c mode).play hops ops.length
  obtain ⟨l1, l2, l3⟩ := HP.look i
  refine bif_2 (fun _ => rfl) fun _ => ?_
  rw [l1]
  cases hr : rhas r s n m c i
  · rw [l3 hr]
    simp
  · rw [l2 hr]
    simp
end Go.Proofs.Ytckhkagkpldoiaa.E
namespace Go.Proofs.Ytckhkagkpldoiaa
open Go Go.ChangeShapes Go.WideShapes Go.RowKit Go.Shelf
set_option linter.unusedVariables false
theorem DramPlays_any (z0 z1 z2 z3 z4 mode : Int) (A : Option Addr) (n c : Nat) (L : List E.Op5) (hl : L.length = n) (hx : E.opsIn L) (i : Int) (hi : i ≤ 9223372036854775807) (w : World) (hr : RdS 83 w A (L.map E.eOp)) :
    Calls Try.prog 11 #[.agg #[.int .i64 z0, .int .i64 z1, .int .i64 z2, .int .i64 z3, .int .i64 z4], .int .i64 mode, .slice A n c, .int .i64 i] w
      fun e w' => e = .returned (.bool true) ∧ Below w.heap.size w w' := by
  obtain ⟨bs, hb, hs⟩ := E.rdS_sr (en := E.eOp) (k := 83) (c := c) (fun _ => rfl) (by decide) hr hl
  cases hg : gright z0 z1 z2 z3 z4
  · exact (E.dplaysG z0 z1 z2 z3 z4 mode _ L i bs hs hg).belowR w hb
  cases hm : rightB mode
  · exact (E.dplaysM z0 z1 z2 z3 z4 mode _ L i bs hs hg hm).belowR w hb
  have h := (E.dplays z0 z1 z2 z3 z4 mode _ L i hx hi bs hs hg hm).belowR w hb
  rwa [E.dplays_true hx] at h
end Go.Proofs.Ytckhkagkpldoiaa
