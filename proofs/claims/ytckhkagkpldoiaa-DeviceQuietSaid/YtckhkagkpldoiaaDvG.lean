/- DeviceBits, walked. -/
import Derived.Test.YtckhkagkpldoiaaDvF
import Derived.Test.YtckhkagkpldoiaaEeE
import Derived.WalkKit
import Derived.Sort.CutIn
import Derived.IntWalk
namespace Go.Proofs.Ytckhkagkpldoiaa.E
open Go Go.RowKit Go.Shelf
attribute [local go_sem] Oper.semAt_some
set_option linter.unusedVariables false
set_option linter.unusedSimpArgs false

/-- The device and the bytes, behind so many bits. -/
def bitV (V : Dv) (u0 u1 u2 u3 : Int) (bits : List Int) : Nat → Dv
  | 0 => V
  | k + 1 => injV (bitV V u0 u1 u2 u3 bits k) (fbt u0 u1 u2 u3 (bits.getD k 0))
def bitX (V : Dv) (u0 u1 u2 u3 : Int) (bits : List Int) (x : List UInt8) : Nat → List UInt8
  | 0 => x
  | k + 1 => bif dInject_0 (bitV V u0 u1 u2 u3 bits k).D (fbt u0 u1 u2 u3 (bits.getD k 0)) == 0 then flipI (bitX V u0 u1 u2 u3 bits x k) (bits.getD k 0) else bitX V u0 u1 u2 u3 bits x k
/-- What is told of all that is done. -/
structure BitsT (V4 : Dv) (n : Nat) (i : Int) (x r got again : List UInt8) (e : Nat) : Prop where
  l : V4.l = [⟨true, i, i, false, 0, false⟩, ⟨false, i, i, false, ((e : Nat) : Int), false⟩, ⟨true, i, i, false, 0, false⟩, ⟨false, i, i, false, 0, false⟩]
  got : got = x
  again : again = r
  gh : V4.ghost i = r
theorem vRead_len {V : Dv} (h : DrOk V.D) (i : Int) : (vRead_0 V i).length = 72 := by
  unfold vRead_0
  cases dRead_3 V.D i != 0
  · exact dRead_len h i
  · exact List.length_replicate
attribute [local irreducible] fapply ovF gat_0 gat_1 gat_2 gat_3 gat_4 gindex_0 gindex_1 dInject_0 injD wrD rdD dWrite_0 dWrite_1 dWrite_2 dRead_0 dRead_1 dRead_2 dRead_3 D0 expo putV rdV V0 chipB fromN flipI bitV bitX injV
end Go.Proofs.Ytckhkagkpldoiaa.E
