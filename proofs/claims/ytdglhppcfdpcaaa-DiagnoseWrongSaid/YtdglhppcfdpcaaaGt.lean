/- A test. -/
import Derived.Test.YtdglhppcfdpcaaaGoX
import Derived.Test.YtdglhppcfdpcaaaEj
import Derived.WalkKit
import Derived.Sort.CutIn
import Derived.IntWalk
namespace Go.Proofs.Ytdglhppcfdpcaaa.E
open Go Go.RowKit Go.Shelf
set_option linter.unusedVariables false
set_option linter.unusedSimpArgs false
def xbare_0 (kd : Int) (a1 : Int) : Int := (bif kd == 2 then a1 else (bif kd == 3 then a1 else (bif kd == 4 then 0 else a1)))
def xbare_1 (kd : Int) (a2 : Int) : Int := (bif kd == 2 then a2 else (bif kd == 3 then 0 else (bif kd == 4 then 0 else a2)))
def xbare_2 (kd : Int) (a3 : Int) : Int := (bif kd == 2 then 0 else (bif kd == 3 then a3 else (bif kd == 4 then 0 else a3)))
set_option maxRecDepth 100000 in
theorem xbare (kd a0 a1 a2 a3 : Int) : Con Try.prog 27 #[i6 kd, .agg #[i6 a0, i6 a1, i6 a2, i6 a3]] [] [] (fun _ => []) (fun _ => .agg #[i6 a0, i6 (xbare_0 kd a1), i6 (xbare_1 kd a2), i6 (xbare_2 kd a3)]) := by
 have hf := Try.func27
 have hE := enters_of hf (by kernel_rfl) rfl
 refine fE hf (fun w cs => ?_) hE
 refine rr (fun _ => []) (fun q1 => [(3, pt ((q1 0).blk 0) 0), (4, pt ((q1 1).blk 0) 0)]) [] (fun q1 L => L ++ [ob ((q1 0).blk 0) #[i6 a0, i6 a1, i6 a2, i6 a3] 32, ob ((q1 1).blk 0) #[i6 0, i6 0, i6 0, i6 0] 32]) fun q1 => ?_
 refine r0 [] [(5, i6 kd)] [] ?_
 refine r0 [] [(6, .bool (kd == 2))] [] ?_
 refine cJ (kd == 2) (fun _ => []) (fun c => [ob ((q1 0).blk 0) #[i6 a0, i6 (bif c then a1 else (bif kd == 3 then a1 else (bif kd == 4 then 0 else a1))), i6 (bif c then a2 else (bif kd == 3 then 0 else (bif kd == 4 then 0 else a2))), i6 (bif c then 0 else (bif kd == 3 then a3 else (bif kd == 4 then 0 else a3)))] 32, ob ((q1 1).blk 0) #[i6 0, i6 0, i6 0, i6 0] 32]) (fun h4 => ?_) (fun h4 => ?_) ?_
 ·have dh4 := eq_of_beq h4
  refine rr (fun _ => [(1, .s 0)]) (fun _ => []) [] (fun _ L => L.set 0 (ob ((q1 0).blk 0) #[i6 a0, i6 a1, i6 a2, i6 0] 32)) fun q5 => ?_
  exact cm (by kernel_rfl) [0, 1] (by kernel_rfl)
 ·have dh4 := ne_of_beq_false h4
  refine r0 [] [(9, .bool (kd == 3))] [] ?_
  refine cJ (kd == 3) (fun _ => []) (fun c => [ob ((q1 0).blk 0) #[i6 a0, i6 (bif c then a1 else (bif kd == 4 then 0 else a1)), i6 (bif c then 0 else (bif kd == 4 then 0 else a2)), i6 (bif c then a3 else (bif kd == 4 then 0 else a3))] 32, ob ((q1 1).blk 0) #[i6 0, i6 0, i6 0, i6 0] 32]) (fun h7 => ?_) (fun h7 => ?_) ?_
  ·have dh7 := eq_of_beq h7
   refine rr (fun _ => [(1, .s 0)]) (fun _ => []) [] (fun _ L => L.set 0 (ob ((q1 0).blk 0) #[i6 a0, i6 a1, i6 0, i6 a3] 32)) fun q8 => ?_
   exact cm (by kernel_rfl) [0, 1] (by kernel_rfl)
  ·have dh7 := ne_of_beq_false h7
   refine r0 [] [(12, .bool (kd == 4))] [] ?_
   refine cJ (kd == 4) (fun _ => []) (fun c => [ob ((q1 0).blk 0) #[i6 a0, i6 (bif c then 0 else a1), i6 (bif c then 0 else a2), i6 (bif c then 0 else a3)] 32, ob ((q1 1).blk 0) #[i6 0, i6 0, i6 0, i6 0] 32]) (fun h10 => ?_) (fun h10 => ?_) ?_
   ·have dh10 := eq_of_beq h10
    refine rr (fun _ => [(1, .l 0), (3, .s 0)]) (fun _ => []) [] (fun _ L => L.set 0 (ob ((q1 0).blk 0) #[i6 a0, i6 0, i6 0, i6 0] 32)) fun q11 => ?_
    exact cm (by kernel_rfl) [0, 1] (by kernel_rfl)
   ·have dh10 := ne_of_beq_false h10
    exact cm (by kernel_rfl) [0, 1] (by kernel_rfl)
   exact cm (by kernel_rfl) [0, 1] (by kernel_rfl)
  exact cm (by kernel_rfl) [0, 1] (by kernel_rfl)
 refine rr (fun _ => [(0, .l 0), (1, .s 1)]) (fun _ => []) [] (fun _ L => L.set 1 (ob ((q1 1).blk 0) #[i6 a0, i6 (bif kd == 2 then a1 else (bif kd == 3 then a1 else (bif kd == 4 then 0 else a1))), i6 (bif kd == 2 then a2 else (bif kd == 3 then 0 else (bif kd == 4 then 0 else a2))), i6 (bif kd == 2 then 0 else (bif kd == 3 then a3 else (bif kd == 4 then 0 else a3)))] 32)) fun q12 => ?_
 exact lf Env.zero [] [] [1]
end Go.Proofs.Ytdglhppcfdpcaaa.E
