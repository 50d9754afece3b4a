/- DramKeeps, walked. -/
import Derived.Test.YtckhkagkpldoiaaDrH
import Derived.Test.YtckhkagkpldoiaaEeE
import Derived.WalkKit
import Derived.Sort.CutIn
import Derived.IntWalk
namespace Go.Proofs.Ytckhkagkpldoiaa.E
open Go Go.RowKit Go.Shelf
attribute [local go_sem] Oper.semAt_some
set_option linter.unusedVariables false
set_option linter.unusedSimpArgs false

structure Op5 where
  kind : Int
  index : Int
  many : Int
  fault : Fa
  raw : List UInt8
def eOp (o : Op5) : List Value := [.int .i64 o.kind, .int .i64 o.index, .int .i64 o.many, .int .i64 o.fault.x0, .int .i64 o.fault.x1, .int .i64 o.fault.x2, .int .i64 o.fault.x3, .int .i64 o.fault.x4, .int .i64 o.fault.x5, .int .i64 o.fault.x6, .int .i64 o.fault.x7] ++ rB 72 o.raw
def zOp : Op5 := ⟨0, 0, 0, zFa, zRw⟩
/-- The chips behind k steps that write and read. -/
def kD (D : Dr) (ops : List Op5) : Nat → Dr
  | 0 => D
  | k + 1 => bif (ops.getD k zOp).kind == 2 then wrD (kD D ops k) (ops.getD k zOp).index (ops.getD k zOp).raw else bif (ops.getD k zOp).kind == 3 then rdD (kD D ops k) (ops.getD k zOp).index else kD D ops k
/-- What was written last at the index. -/
def kL (D : Dr) (ops : List Op5) (i : Int) (xs : List UInt8) : Nat → List UInt8
  | 0 => xs
  | k + 1 => bif (ops.getD k zOp).kind == 2 then bif ((dWrite_2 (kD D ops k) (ops.getD k zOp).index) == 0) && ((ops.getD k zOp).index == i) then (ops.getD k zOp).raw else kL D ops i xs k else kL D ops i xs k
attribute [local irreducible] fapply ovF gat_0 gat_1 gat_2 gat_3 gat_4 gindex_0 gindex_1 dadd_0 dadd_1 fright flipI flasts flies fnarrow fcovers dInject_0 injD wrD rdD dWrite_0 dWrite_1 dWrite_2 dRead_0 dRead_1 dRead_2 dRead_3 D0 kD kL
end Go.Proofs.Ytckhkagkpldoiaa.E
