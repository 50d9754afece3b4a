/- A step of both. -/
import Derived.Test.YtckhkagkpldoiaaRpX
import Derived.Test.YtckhkagkpldoiaaDrK
import Derived.WalkKit
import Derived.Sort.CutIn
import Derived.IntWalk
namespace Go.Proofs.Ytckhkagkpldoiaa.E
open Go Go.RowKit Go.Shelf
attribute [local go_sem] Oper.semAt_some
set_option linter.unusedVariables false
set_option linter.unusedSimpArgs false

def OpIn (o : Op5) : Prop := o.raw.length = 72 ∧ FaOk o.fault ∧ o.index ≤ 9223372036854775807
def opsIn (ops : List Op5) : Prop := ∀ o ∈ ops, OpIn o
theorem zOp_in : OpIn zOp := ⟨List.length_replicate, ⟨by decide, by decide⟩, by decide⟩
theorem opIn_at {ops : List Op5} (h : opsIn ops) (k : Nat) : OpIn (ops.getD k zOp) := by
  rw [List.getD_eq_getElem?_getD]
  cases hx : ops[k]? with
  | none => exact zOp_in
  | some o => exact h o (List.mem_of_getElem? hx)
def manyN (o : Op5) : Nat := (max (min o.many 300) 0).toNat
/-- Both, behind a step. -/
def psD (D : Dr) (o : Op5) : Dr := bif o.kind == 1 then injD D o.fault else bif o.kind == 2 then wrD D o.index o.raw else bif o.kind == 3 then rdD D o.index else bif o.kind == 4 then injN D o.fault (manyN o) else D
def psC (r s n m c mode : Int) (x : Rs) (o : Op5) : List Ce := bif o.kind == 1 then rinj_1 r s n m c mode x.cl o.fault else bif o.kind == 2 then bif !rhas r s n m c o.index then x.cl else bif !rwent_1 x.co then putC x.cl (rwent_0 x.co o.index) o.raw else x.cl else bif o.kind == 3 then x.cl else bif o.kind == 4 then (rinN r s n m c mode x o.fault (manyN o)).cl else x.cl
def psL (r s n m c mode : Int) (x : Rs) (o : Op5) : List Fa := bif o.kind == 1 then rinj_2 r s n m c mode x.la o.fault else bif o.kind == 2 then x.la else bif o.kind == 3 then x.la else bif o.kind == 4 then (rinN r s n m c mode x o.fault (manyN o)).la else x.la
def psO (r s n m c mode : Int) (x : Rs) (o : Op5) : List Fa := bif o.kind == 1 then rinj_3 r s n m c mode x.co o.fault else bif o.kind == 2 then bif !rhas r s n m c o.index then x.co else rwent_2 x.co else bif o.kind == 3 then bif !rhas r s n m c o.index then x.co else rwent_2 x.co else bif o.kind == 4 then (rinN r s n m c mode x o.fault (manyN o)).co else x.co
section
variable {D : Dr} {r s n m c mode : Int} {x : Rs}
theorem RpR.injN (h : RpR D r s n m c mode x) {f : Fa} (hf : FaOk f) : ∀ k, RpR (E.injN D f k) r s n m c mode (rinN r s n m c mode x f k)
  | 0 => h
  | k + 1 => ((h.injN hf k).inj hf).1
theorem RpR.l1 (h : RpR D r s n m c mode x) : x.la.length ≤ 256 := h.la ▸ h.ok.l1
theorem RpR.l2 (h : RpR D r s n m c mode x) : x.co.length ≤ 256 := h.co ▸ h.ok.l2
theorem RpR.f1 (h : RpR D r s n m c mode x) : ∀ f ∈ x.la, FaOk f := h.la ▸ h.ok.f1
theorem RpR.pl (h : RpR D r s n m c mode x) : ∀ f ∈ x.co, PlB f := fun f hf => fr_bd (r := r) (s := s) (n := n) (m := m) (l := c) (mode := mode) (by rw [← fright_eq, h.fr f hf]; rfl)
end
attribute [local irreducible] fapply ovF gat_0 gat_1 gat_2 gat_3 gat_4 gindex_0 gindex_1 dadd_0 dadd_1 fright flipI flasts flies fnarrow fcovers dInject_0 injD wrD rdD dWrite_0 dWrite_1 dWrite_2 dRead_0 dRead_1 dRead_2 dRead_3 D0 getC putC rinj_0 rinj_1 rinj_2 rinj_3 rwent_0 rwent_1 rwent_2 rhas ov11 manyN injN rinN fright11 fapply11
def dstep_0 (D : Dr) (r : Int) (s : Int) (n : Int) (m : Int) (c : Int) (mode : Int) (x : Rs) (o : Op5) : Bool := (bif o.kind == 1 then (dInject_0 D o.fault) == (rinj_0 r s n m c mode x.la x.co o.fault) else (bif o.kind == 2 then (bif !(rhas r s n m c o.index) then ((dWrite_2 D o.index) == 12) && (((dWrite_0 D o.index) == 0) && (!(dWrite_1 D o.index))) else ((dWrite_2 D o.index) == 0) && (((dWrite_0 D o.index) == (rwent_0 x.co o.index)) && ((dWrite_1 D o.index) == (rwent_1 x.co)))) else (bif o.kind == 3 then (bif !(rhas r s n m c o.index) then (((dRead_3 D o.index) == 12) && (((dRead_1 D o.index) == 0) && (!(dRead_2 D o.index)))) && (decide ((dRead_0 D o.index) = List.replicate 72 0)) else (bif !(rwent_1 x.co) then (((dRead_3 D o.index) == 0) && (((dRead_1 D o.index) == (rwent_0 x.co o.index)) && ((dRead_2 D o.index) == (rwent_1 x.co)))) && (decide ((dRead_0 D o.index) = ov11 x.la mode ((rwent_0 x.co o.index) / 1048576) ((rwent_0 x.co o.index) / 65536 % 16) ((rwent_0 x.co o.index) / 64 % 1024) ((rwent_0 x.co o.index) % 64) (getC x.cl (rwent_0 x.co o.index)) x.la.length)) else (((dRead_3 D o.index) == 0) && (((dRead_1 D o.index) == (rwent_0 x.co o.index)) && ((dRead_2 D o.index) == (rwent_1 x.co)))) && (decide ((dRead_0 D o.index) = List.replicate 72 0)))) else true)))
end Go.Proofs.Ytckhkagkpldoiaa.E
