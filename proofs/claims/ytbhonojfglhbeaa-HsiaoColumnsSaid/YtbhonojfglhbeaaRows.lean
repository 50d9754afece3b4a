/-
  No cell of these rows narrows 'for every input' (looked for: loops, veiled, ifaces, maps, wideKeys, modest, calm, conditions, laid).
  DERIVED. THE GIVEN ROWS OF THIS SEAT. 7 by the template 'for every input the law returns true; each argument reads behind the call as it read before'; 0 by the template 'total and deterministic' (their statements: YtbhonojfglhbeaaTotals.lean).
  GIVEN WITH THE SEED: the statements are not yours to turn. If you find one false, say at which input.
  Laid BY PROGRAM, IN A SANDBOX (cutbox-rows.mjs): the forced cells as the released guide's own fill.sh prints them over the translation d946efae0d223c43… (all of the seat's roots in one cut). By AI agents, Wed Nov 11 2026. No macro, syntax, notation, axiom, sorry.
-/
import Derived.Test.YtbhonojfglhbeaaChecked
import GoSem.Claim
import GoSem.ClaimJoined
import GoSem.ClaimMapViews
import Derived.JoinedTies
import Derived.KernelRfl
namespace Go.Proofs.Ytbhonojfglhbeaa
/- THE CELL 'sum', in the pinned program and in every row, IS THE sha256 OF THE DUMP (.gsa) THAT YtbhonojfglhbeaaProg.lean LOADS. Nothing in Lean hashes anything: it is a label: what it is worth is what the hold of that sum in a sandbox is worth. -/
noncomputable def Try.pinned : Pinned := { name := "ytbhonojfglhbeaa", sum := "d946efae0d223c43c3544d3b0ec6e9ee4e06967d06396ab7653c6874010c3e60", checked := Try.checked }
namespace Rows
def none {H : Type} : Left H := { results := [], args := [] }

/-- 'cuirasslaw04.HsiaoLinear': WHATEVER THE INPUT: true; the input reads as it did. -/
def hsiaoLinearSpec : ChangeSpec := { name := "hsiaoLinear", fn := fun _ => fun
  | [d1, d2, d3, d4] => { results := [.lit (.bool true)], args := [d1, d2, d3, d4] }
  | _ => none }
def hsiaoLinearRow : OpenClaim := { program := "ytbhonojfglhbeaa", sum := "d946efae0d223c43c3544d3b0ec6e9ee4e06967d06396ab7653c6874010c3e60", func := "cuirass/cuirasslaw04.HsiaoLinear", spec := "hsiaoLinear", unfollowed := true, recurses := true, apart := false }
def HsiaoLinearSaid : Prop := hsiaoLinearRow.holds Try.pinned (OpenSpec.ofChange hsiaoLinearSpec)

/-- ITS FALSE NEIGHBOUR: 'it returns false'. Refute it at one input. -/
def hsiaoLinearWrong : ChangeSpec := { name := "hsiaoLinear", fn := fun _ => fun
  | [d1, d2, d3, d4] => { results := [.lit (.bool false)], args := [d1, d2, d3, d4] }
  | _ => none }
def HsiaoLinearWrongFalsely : Prop := hsiaoLinearRow.holds Try.pinned (OpenSpec.ofChange hsiaoLinearWrong)

/-- 'cuirasslaw04.HsiaoColumns': WHATEVER THE INPUT: true; the input reads as it did. -/
def hsiaoColumnsSpec : ChangeSpec := { name := "hsiaoColumns", fn := fun _ => fun
  | [d1, d2] => { results := [.lit (.bool true)], args := [d1, d2] }
  | _ => none }
def hsiaoColumnsRow : OpenClaim := { program := "ytbhonojfglhbeaa", sum := "d946efae0d223c43c3544d3b0ec6e9ee4e06967d06396ab7653c6874010c3e60", func := "cuirass/cuirasslaw04.HsiaoColumns", spec := "hsiaoColumns", unfollowed := true, recurses := true, apart := false }
def HsiaoColumnsSaid : Prop := hsiaoColumnsRow.holds Try.pinned (OpenSpec.ofChange hsiaoColumnsSpec)

/-- ITS FALSE NEIGHBOUR: 'it returns false'. Refute it at one input. -/
def hsiaoColumnsWrong : ChangeSpec := { name := "hsiaoColumns", fn := fun _ => fun
  | [d1, d2] => { results := [.lit (.bool false)], args := [d1, d2] }
  | _ => none }
def HsiaoColumnsWrongFalsely : Prop := hsiaoColumnsRow.holds Try.pinned (OpenSpec.ofChange hsiaoColumnsWrong)

/-- 'cuirasslaw04.HsiaoWeights': WHATEVER THE INPUT: true; the input reads as it did. -/
def hsiaoWeightsSpec : ChangeSpec := { name := "hsiaoWeights", fn := fun _ => fun
  | [d] => { results := [.lit (.bool true)], args := [d] }
  | _ => none }
def hsiaoWeightsRow : OpenClaim := { program := "ytbhonojfglhbeaa", sum := "d946efae0d223c43c3544d3b0ec6e9ee4e06967d06396ab7653c6874010c3e60", func := "cuirass/cuirasslaw04.HsiaoWeights", spec := "hsiaoWeights", unfollowed := true, recurses := true, apart := false }
def HsiaoWeightsSaid : Prop := hsiaoWeightsRow.holds Try.pinned (OpenSpec.ofChange hsiaoWeightsSpec)

/-- ITS FALSE NEIGHBOUR: 'it returns false'. Refute it at one input. -/
def hsiaoWeightsWrong : ChangeSpec := { name := "hsiaoWeights", fn := fun _ => fun
  | [d] => { results := [.lit (.bool false)], args := [d] }
  | _ => none }
def HsiaoWeightsWrongFalsely : Prop := hsiaoWeightsRow.holds Try.pinned (OpenSpec.ofChange hsiaoWeightsWrong)

/-- 'cuirasslaw04.HsiaoDetects': WHATEVER THE INPUT: true; the input reads as it did. -/
def hsiaoDetectsSpec : ChangeSpec := { name := "hsiaoDetects", fn := fun _ => fun
  | [d1, d2, d3, d4, d5, d6] => { results := [.lit (.bool true)], args := [d1, d2, d3, d4, d5, d6] }
  | _ => none }
def hsiaoDetectsRow : OpenClaim := { program := "ytbhonojfglhbeaa", sum := "d946efae0d223c43c3544d3b0ec6e9ee4e06967d06396ab7653c6874010c3e60", func := "cuirass/cuirasslaw04.HsiaoDetects", spec := "hsiaoDetects", unfollowed := true, recurses := true, apart := false }
def HsiaoDetectsSaid : Prop := hsiaoDetectsRow.holds Try.pinned (OpenSpec.ofChange hsiaoDetectsSpec)

/-- ITS FALSE NEIGHBOUR: 'it returns false'. Refute it at one input. -/
def hsiaoDetectsWrong : ChangeSpec := { name := "hsiaoDetects", fn := fun _ => fun
  | [d1, d2, d3, d4, d5, d6] => { results := [.lit (.bool false)], args := [d1, d2, d3, d4, d5, d6] }
  | _ => none }
def HsiaoDetectsWrongFalsely : Prop := hsiaoDetectsRow.holds Try.pinned (OpenSpec.ofChange hsiaoDetectsWrong)

/-- 'cuirasslaw04.HsiaoChecks': WHATEVER THE INPUT: true; the input reads as it did. -/
def hsiaoChecksSpec : ChangeSpec := { name := "hsiaoChecks", fn := fun _ => fun
  | [d1, d2, d3, d4] => { results := [.lit (.bool true)], args := [d1, d2, d3, d4] }
  | _ => none }
def hsiaoChecksRow : OpenClaim := { program := "ytbhonojfglhbeaa", sum := "d946efae0d223c43c3544d3b0ec6e9ee4e06967d06396ab7653c6874010c3e60", func := "cuirass/cuirasslaw04.HsiaoChecks", spec := "hsiaoChecks", unfollowed := true, recurses := true, apart := false }
def HsiaoChecksSaid : Prop := hsiaoChecksRow.holds Try.pinned (OpenSpec.ofChange hsiaoChecksSpec)

/-- ITS FALSE NEIGHBOUR: 'it returns false'. Refute it at one input. -/
def hsiaoChecksWrong : ChangeSpec := { name := "hsiaoChecks", fn := fun _ => fun
  | [d1, d2, d3, d4] => { results := [.lit (.bool false)], args := [d1, d2, d3, d4] }
  | _ => none }
def HsiaoChecksWrongFalsely : Prop := hsiaoChecksRow.holds Try.pinned (OpenSpec.ofChange hsiaoChecksWrong)

/-- 'cuirasslaw04.HsiaoCorrects': WHATEVER THE INPUT: true; the input reads as it did. -/
def hsiaoCorrectsSpec : ChangeSpec := { name := "hsiaoCorrects", fn := fun _ => fun
  | [d1, d2, d3] => { results := [.lit (.bool true)], args := [d1, d2, d3] }
  | _ => none }
def hsiaoCorrectsRow : OpenClaim := { program := "ytbhonojfglhbeaa", sum := "d946efae0d223c43c3544d3b0ec6e9ee4e06967d06396ab7653c6874010c3e60", func := "cuirass/cuirasslaw04.HsiaoCorrects", spec := "hsiaoCorrects", unfollowed := true, recurses := true, apart := false }
def HsiaoCorrectsSaid : Prop := hsiaoCorrectsRow.holds Try.pinned (OpenSpec.ofChange hsiaoCorrectsSpec)

/-- ITS FALSE NEIGHBOUR: 'it returns false'. Refute it at one input. -/
def hsiaoCorrectsWrong : ChangeSpec := { name := "hsiaoCorrects", fn := fun _ => fun
  | [d1, d2, d3] => { results := [.lit (.bool false)], args := [d1, d2, d3] }
  | _ => none }
def HsiaoCorrectsWrongFalsely : Prop := hsiaoCorrectsRow.holds Try.pinned (OpenSpec.ofChange hsiaoCorrectsWrong)

/-- 'cuirasslaw04.HsiaoMarks': WHATEVER THE INPUT: true; the input reads as it did. -/
def hsiaoMarksSpec : ChangeSpec := { name := "hsiaoMarks", fn := fun _ => fun
  | [d1, d2, d3] => { results := [.lit (.bool true)], args := [d1, d2, d3] }
  | _ => none }
def hsiaoMarksRow : OpenClaim := { program := "ytbhonojfglhbeaa", sum := "d946efae0d223c43c3544d3b0ec6e9ee4e06967d06396ab7653c6874010c3e60", func := "cuirass/cuirasslaw04.HsiaoMarks", spec := "hsiaoMarks", unfollowed := true, recurses := true, apart := false }
def HsiaoMarksSaid : Prop := hsiaoMarksRow.holds Try.pinned (OpenSpec.ofChange hsiaoMarksSpec)

/-- ITS FALSE NEIGHBOUR: 'it returns false'. Refute it at one input. -/
def hsiaoMarksWrong : ChangeSpec := { name := "hsiaoMarks", fn := fun _ => fun
  | [d1, d2, d3] => { results := [.lit (.bool false)], args := [d1, d2, d3] }
  | _ => none }
def HsiaoMarksWrongFalsely : Prop := hsiaoMarksRow.holds Try.pinned (OpenSpec.ofChange hsiaoMarksWrong)

/- THE SECOND FORM. 'bulk': how many values and letters a reading holds, each counted each time it is reached (what is shared counts as often as it is met; a slice's spare places count too). A statement '..UptoSaid' is the law's where the arguments, and the package variables that the reading takes, are together of bulk at most 1048576: NARROWER than '..Said'. Prove '..Said' where nothing that the law and all that it calls make is longer than what came in: it says more and counts as full. Else prove '..UptoSaid'. A law counts once. -/
mutual
def uptoBulk {H : Type} : DataW H → Nat
  | .lit (.string bytes) => bytes.length + 1
  | .lit _ => 1
  | .nil => 1
  | .ptr d => uptoBulk d + 1
  | .slice elems spare => uptoBulkAll elems + uptoBulkAll spare + 1
  | .agg parts => uptoBulkAll parts + 1
  | .iface _ d => uptoBulk d + 1
  | .map entries => uptoBulkEntries entries + 1
  | .held _ => 1
def uptoBulkAll {H : Type} : List (DataW H) → Nat
  | [] => 0
  | d :: r => uptoBulk d + uptoBulkAll r
def uptoBulkEntries {H : Type} : List (Lit × DataW H) → Nat
  | [] => 0
  | x :: r => uptoBulkEntry x + uptoBulkEntries r
def uptoBulkEntry {H : Type} : Lit × DataW H → Nat
  | (.string bytes, d) => bytes.length + uptoBulk d + 1
  | (_, d) => uptoBulk d + 1
 end
def uptoSmall : (H : Type) → List (DataW H) → Bool := fun _ ds => decide (uptoBulkAll ds ≤ 1048576)
def OpenSpec.upto (s : _root_.Go.ChangeSpec) : _root_.Go.OpenSpec := { _root_.Go.OpenSpec.ofChange s with cond := some uptoSmall }

/-- 'cuirasslaw04.HsiaoLinear', WHERE WHAT IT READS IS OF BULK AT MOST 1048576: true; the input reads as it did. -/
def hsiaoLinearUptoRow : OpenClaim := { program := "ytbhonojfglhbeaa", sum := "d946efae0d223c43c3544d3b0ec6e9ee4e06967d06396ab7653c6874010c3e60", func := "cuirass/cuirasslaw04.HsiaoLinear", spec := "hsiaoLinear", unfollowed := true, recurses := true, apart := false, narrowed := true }
def HsiaoLinearUptoSaid : Prop := hsiaoLinearUptoRow.holds Try.pinned (OpenSpec.upto hsiaoLinearSpec)

/-- 'cuirasslaw04.HsiaoColumns', WHERE WHAT IT READS IS OF BULK AT MOST 1048576: true; the input reads as it did. -/
def hsiaoColumnsUptoRow : OpenClaim := { program := "ytbhonojfglhbeaa", sum := "d946efae0d223c43c3544d3b0ec6e9ee4e06967d06396ab7653c6874010c3e60", func := "cuirass/cuirasslaw04.HsiaoColumns", spec := "hsiaoColumns", unfollowed := true, recurses := true, apart := false, narrowed := true }
def HsiaoColumnsUptoSaid : Prop := hsiaoColumnsUptoRow.holds Try.pinned (OpenSpec.upto hsiaoColumnsSpec)

/-- 'cuirasslaw04.HsiaoWeights', WHERE WHAT IT READS IS OF BULK AT MOST 1048576: true; the input reads as it did. -/
def hsiaoWeightsUptoRow : OpenClaim := { program := "ytbhonojfglhbeaa", sum := "d946efae0d223c43c3544d3b0ec6e9ee4e06967d06396ab7653c6874010c3e60", func := "cuirass/cuirasslaw04.HsiaoWeights", spec := "hsiaoWeights", unfollowed := true, recurses := true, apart := false, narrowed := true }
def HsiaoWeightsUptoSaid : Prop := hsiaoWeightsUptoRow.holds Try.pinned (OpenSpec.upto hsiaoWeightsSpec)

/-- 'cuirasslaw04.HsiaoDetects', WHERE WHAT IT READS IS OF BULK AT MOST 1048576: true; the input reads as it did. -/
def hsiaoDetectsUptoRow : OpenClaim := { program := "ytbhonojfglhbeaa", sum := "d946efae0d223c43c3544d3b0ec6e9ee4e06967d06396ab7653c6874010c3e60", func := "cuirass/cuirasslaw04.HsiaoDetects", spec := "hsiaoDetects", unfollowed := true, recurses := true, apart := false, narrowed := true }
def HsiaoDetectsUptoSaid : Prop := hsiaoDetectsUptoRow.holds Try.pinned (OpenSpec.upto hsiaoDetectsSpec)

/-- 'cuirasslaw04.HsiaoChecks', WHERE WHAT IT READS IS OF BULK AT MOST 1048576: true; the input reads as it did. -/
def hsiaoChecksUptoRow : OpenClaim := { program := "ytbhonojfglhbeaa", sum := "d946efae0d223c43c3544d3b0ec6e9ee4e06967d06396ab7653c6874010c3e60", func := "cuirass/cuirasslaw04.HsiaoChecks", spec := "hsiaoChecks", unfollowed := true, recurses := true, apart := false, narrowed := true }
def HsiaoChecksUptoSaid : Prop := hsiaoChecksUptoRow.holds Try.pinned (OpenSpec.upto hsiaoChecksSpec)

/-- 'cuirasslaw04.HsiaoCorrects', WHERE WHAT IT READS IS OF BULK AT MOST 1048576: true; the input reads as it did. -/
def hsiaoCorrectsUptoRow : OpenClaim := { program := "ytbhonojfglhbeaa", sum := "d946efae0d223c43c3544d3b0ec6e9ee4e06967d06396ab7653c6874010c3e60", func := "cuirass/cuirasslaw04.HsiaoCorrects", spec := "hsiaoCorrects", unfollowed := true, recurses := true, apart := false, narrowed := true }
def HsiaoCorrectsUptoSaid : Prop := hsiaoCorrectsUptoRow.holds Try.pinned (OpenSpec.upto hsiaoCorrectsSpec)

/-- 'cuirasslaw04.HsiaoMarks', WHERE WHAT IT READS IS OF BULK AT MOST 1048576: true; the input reads as it did. -/
def hsiaoMarksUptoRow : OpenClaim := { program := "ytbhonojfglhbeaa", sum := "d946efae0d223c43c3544d3b0ec6e9ee4e06967d06396ab7653c6874010c3e60", func := "cuirass/cuirasslaw04.HsiaoMarks", spec := "hsiaoMarks", unfollowed := true, recurses := true, apart := false, narrowed := true }
def HsiaoMarksUptoSaid : Prop := hsiaoMarksUptoRow.holds Try.pinned (OpenSpec.upto hsiaoMarksSpec)

end Rows
end Go.Proofs.Ytbhonojfglhbeaa
