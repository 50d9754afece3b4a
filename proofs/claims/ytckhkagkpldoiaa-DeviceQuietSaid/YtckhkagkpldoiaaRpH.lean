/- DramPlays, walked. -/
import Derived.Test.YtckhkagkpldoiaaRpG
import Derived.Test.YtckhkagkpldoiaaDrH
import Derived.Test.YtckhkagkpldoiaaEeE
import Derived.WalkKit
import Derived.Sort.CutIn
import Derived.IntWalk
namespace Go.Proofs.Ytckhkagkpldoiaa.E
open Go Go.RowKit Go.Shelf
attribute [local go_sem] Oper.semAt_some
set_option linter.unusedVariables false
set_option linter.unusedSimpArgs false

def Rs0 : Rs := ⟨[], [], []⟩
theorem has_nn {r s n m c i : Int} (hh : (!rhas r s n m c i) = false) : 0 ≤ i := by
  unfold rhas at hh
  rw [Bool.not_eq_false', Bool.and_eq_true] at hh
  exact of_decide_eq_true hh.1
attribute [local irreducible] fapply ovF gat_0 gat_1 gat_2 gat_3 gat_4 gindex_0 gindex_1 dadd_0 dadd_1 fright flipI flasts flies fnarrow fcovers dInject_0 injD wrD rdD dWrite_0 dWrite_1 dWrite_2 dRead_0 dRead_1 dRead_2 dRead_3 D0 getC putC rinj_0 rinj_1 rinj_2 rinj_3 rwent_0 rwent_1 rwent_2 rhas ov11 manyN injN rinN fright11 fapply11 dstep_0 psD psC psL psO plD plX Rs0 dLook_0 dLook_1 rright gright rightB
end Go.Proofs.Ytckhkagkpldoiaa.E
