/-
  No cell of these rows narrows 'for every input' (looked for: loops, veiled, ifaces, maps, wideKeys, modest, calm, conditions, laid).
  DERIVED. THE GIVEN ROWS OF THIS SEAT. 8 by the template 'for every input the law returns true; each argument reads behind the call as it read before'; 0 by the template 'total and deterministic' (their statements: YtkeheickaogpiaaTotals.lean).
  GIVEN WITH THE SEED: the statements are not yours to turn. If you find one false, say at which input.
  Laid BY PROGRAM, IN A SANDBOX (cutbox-rows.mjs): the forced cells as the released guide's own fill.sh prints them over the translation 15df3a8ed221534f… (all of the seat's roots in one cut). By AI agents, Wed Nov 11 2026. No macro, syntax, notation, axiom, sorry.
-/
import Derived.Test.YtkeheickaogpiaaChecked
import GoSem.Claim
import GoSem.ClaimJoined
import GoSem.ClaimMapViews
import Derived.JoinedTies
import Derived.KernelRfl
namespace Go.Proofs.Ytkeheickaogpiaa
/- THE CELL 'sum', in the pinned program and in every row, IS THE sha256 OF THE DUMP (.gsa) THAT YtkeheickaogpiaaProg.lean LOADS. Nothing in Lean hashes anything: it is a label: what it is worth is what the hold of that sum in a sandbox is worth. -/
noncomputable def Try.pinned : Pinned := { name := "ytkeheickaogpiaa", sum := "15df3a8ed221534f60046cf1e9995a573cb6c56ea526d0b4f517c232bade87fb", checked := Try.checked }
namespace Rows
def none {H : Type} : Left H := { results := [], args := [] }

/-- 'cuirasslaw10.CodecEncodes': WHATEVER THE INPUT: true; the input reads as it did. -/
def codecEncodesSpec : ChangeSpec := { name := "codecEncodes", fn := fun _ => fun
  | [d1, d2, d3, d4] => { results := [.lit (.bool true)], args := [d1, d2, d3, d4] }
  | _ => none }
def codecEncodesRow : OpenClaim := { program := "ytkeheickaogpiaa", sum := "15df3a8ed221534f60046cf1e9995a573cb6c56ea526d0b4f517c232bade87fb", func := "cuirass/cuirasslaw10.CodecEncodes", spec := "codecEncodes", unfollowed := true, recurses := true, apart := false }
def CodecEncodesSaid : Prop := codecEncodesRow.holds Try.pinned (OpenSpec.ofChange codecEncodesSpec)

/-- ITS FALSE NEIGHBOUR: 'it returns false'. Refute it at one input. -/
def codecEncodesWrong : ChangeSpec := { name := "codecEncodes", fn := fun _ => fun
  | [d1, d2, d3, d4] => { results := [.lit (.bool false)], args := [d1, d2, d3, d4] }
  | _ => none }
def CodecEncodesWrongFalsely : Prop := codecEncodesRow.holds Try.pinned (OpenSpec.ofChange codecEncodesWrong)

/-- 'cuirasslaw10.CodecDecodes': WHATEVER THE INPUT: true; the input reads as it did. -/
def codecDecodesSpec : ChangeSpec := { name := "codecDecodes", fn := fun _ => fun
  | [d1, d2, d3] => { results := [.lit (.bool true)], args := [d1, d2, d3] }
  | _ => none }
def codecDecodesRow : OpenClaim := { program := "ytkeheickaogpiaa", sum := "15df3a8ed221534f60046cf1e9995a573cb6c56ea526d0b4f517c232bade87fb", func := "cuirass/cuirasslaw10.CodecDecodes", spec := "codecDecodes", unfollowed := true, recurses := true, apart := false }
def CodecDecodesSaid : Prop := codecDecodesRow.holds Try.pinned (OpenSpec.ofChange codecDecodesSpec)

/-- ITS FALSE NEIGHBOUR: 'it returns false'. Refute it at one input. -/
def codecDecodesWrong : ChangeSpec := { name := "codecDecodes", fn := fun _ => fun
  | [d1, d2, d3] => { results := [.lit (.bool false)], args := [d1, d2, d3] }
  | _ => none }
def CodecDecodesWrongFalsely : Prop := codecDecodesRow.holds Try.pinned (OpenSpec.ofChange codecDecodesWrong)

/-- 'cuirasslaw10.CodecCorrects': WHATEVER THE INPUT: true; the input reads as it did. -/
def codecCorrectsSpec : ChangeSpec := { name := "codecCorrects", fn := fun _ => fun
  | [d1, d2, d3, d4] => { results := [.lit (.bool true)], args := [d1, d2, d3, d4] }
  | _ => none }
def codecCorrectsRow : OpenClaim := { program := "ytkeheickaogpiaa", sum := "15df3a8ed221534f60046cf1e9995a573cb6c56ea526d0b4f517c232bade87fb", func := "cuirass/cuirasslaw10.CodecCorrects", spec := "codecCorrects", unfollowed := true, recurses := true, apart := false }
def CodecCorrectsSaid : Prop := codecCorrectsRow.holds Try.pinned (OpenSpec.ofChange codecCorrectsSpec)

/-- ITS FALSE NEIGHBOUR: 'it returns false'. Refute it at one input. -/
def codecCorrectsWrong : ChangeSpec := { name := "codecCorrects", fn := fun _ => fun
  | [d1, d2, d3, d4] => { results := [.lit (.bool false)], args := [d1, d2, d3, d4] }
  | _ => none }
def CodecCorrectsWrongFalsely : Prop := codecCorrectsRow.holds Try.pinned (OpenSpec.ofChange codecCorrectsWrong)

/-- 'cuirasslaw10.CodecDetects': WHATEVER THE INPUT: true; the input reads as it did. -/
def codecDetectsSpec : ChangeSpec := { name := "codecDetects", fn := fun _ => fun
  | [d1, d2, d3, d4, d5] => { results := [.lit (.bool true)], args := [d1, d2, d3, d4, d5] }
  | _ => none }
def codecDetectsRow : OpenClaim := { program := "ytkeheickaogpiaa", sum := "15df3a8ed221534f60046cf1e9995a573cb6c56ea526d0b4f517c232bade87fb", func := "cuirass/cuirasslaw10.CodecDetects", spec := "codecDetects", unfollowed := true, recurses := true, apart := false }
def CodecDetectsSaid : Prop := codecDetectsRow.holds Try.pinned (OpenSpec.ofChange codecDetectsSpec)

/-- ITS FALSE NEIGHBOUR: 'it returns false'. Refute it at one input. -/
def codecDetectsWrong : ChangeSpec := { name := "codecDetects", fn := fun _ => fun
  | [d1, d2, d3, d4, d5] => { results := [.lit (.bool false)], args := [d1, d2, d3, d4, d5] }
  | _ => none }
def CodecDetectsWrongFalsely : Prop := codecDetectsRow.holds Try.pinned (OpenSpec.ofChange codecDetectsWrong)

/-- 'cuirasslaw10.CodecStrays': WHATEVER THE INPUT: true; the input reads as it did. -/
def codecStraysSpec : ChangeSpec := { name := "codecStrays", fn := fun _ => fun
  | [d1, d2, d3, d4] => { results := [.lit (.bool true)], args := [d1, d2, d3, d4] }
  | _ => none }
def codecStraysRow : OpenClaim := { program := "ytkeheickaogpiaa", sum := "15df3a8ed221534f60046cf1e9995a573cb6c56ea526d0b4f517c232bade87fb", func := "cuirass/cuirasslaw10.CodecStrays", spec := "codecStrays", unfollowed := true, recurses := true, apart := false }
def CodecStraysSaid : Prop := codecStraysRow.holds Try.pinned (OpenSpec.ofChange codecStraysSpec)

/-- ITS FALSE NEIGHBOUR: 'it returns false'. Refute it at one input. -/
def codecStraysWrong : ChangeSpec := { name := "codecStrays", fn := fun _ => fun
  | [d1, d2, d3, d4] => { results := [.lit (.bool false)], args := [d1, d2, d3, d4] }
  | _ => none }
def CodecStraysWrongFalsely : Prop := codecStraysRow.holds Try.pinned (OpenSpec.ofChange codecStraysWrong)

/-- 'cuirasslaw10.CodecSame': WHATEVER THE INPUT: true; the input reads as it did. -/
def codecSameSpec : ChangeSpec := { name := "codecSame", fn := fun _ => fun
  | [d1, d2, d3, d4, d5, d6] => { results := [.lit (.bool true)], args := [d1, d2, d3, d4, d5, d6] }
  | _ => none }
def codecSameRow : OpenClaim := { program := "ytkeheickaogpiaa", sum := "15df3a8ed221534f60046cf1e9995a573cb6c56ea526d0b4f517c232bade87fb", func := "cuirass/cuirasslaw10.CodecSame", spec := "codecSame", unfollowed := true, recurses := true, apart := false }
def CodecSameSaid : Prop := codecSameRow.holds Try.pinned (OpenSpec.ofChange codecSameSpec)

/-- ITS FALSE NEIGHBOUR: 'it returns false'. Refute it at one input. -/
def codecSameWrong : ChangeSpec := { name := "codecSame", fn := fun _ => fun
  | [d1, d2, d3, d4, d5, d6] => { results := [.lit (.bool false)], args := [d1, d2, d3, d4, d5, d6] }
  | _ => none }
def CodecSameWrongFalsely : Prop := codecSameRow.holds Try.pinned (OpenSpec.ofChange codecSameWrong)

/-- 'cuirasslaw10.CodecIndex': WHATEVER THE INPUT: true; the input reads as it did. -/
def codecIndexSpec : ChangeSpec := { name := "codecIndex", fn := fun _ => fun
  | [d1, d2, d3, d4, d5] => { results := [.lit (.bool true)], args := [d1, d2, d3, d4, d5] }
  | _ => none }
def codecIndexRow : OpenClaim := { program := "ytkeheickaogpiaa", sum := "15df3a8ed221534f60046cf1e9995a573cb6c56ea526d0b4f517c232bade87fb", func := "cuirass/cuirasslaw10.CodecIndex", spec := "codecIndex", unfollowed := true, recurses := true, apart := false }
def CodecIndexSaid : Prop := codecIndexRow.holds Try.pinned (OpenSpec.ofChange codecIndexSpec)

/-- ITS FALSE NEIGHBOUR: 'it returns false'. Refute it at one input. -/
def codecIndexWrong : ChangeSpec := { name := "codecIndex", fn := fun _ => fun
  | [d1, d2, d3, d4, d5] => { results := [.lit (.bool false)], args := [d1, d2, d3, d4, d5] }
  | _ => none }
def CodecIndexWrongFalsely : Prop := codecIndexRow.holds Try.pinned (OpenSpec.ofChange codecIndexWrong)

/-- 'cuirasslaw10.CodecChips': WHATEVER THE INPUT: true; the input reads as it did. -/
def codecChipsSpec : ChangeSpec := { name := "codecChips", fn := fun _ => fun
  | [d1, d2, d3, d4, d5] => { results := [.lit (.bool true)], args := [d1, d2, d3, d4, d5] }
  | _ => none }
def codecChipsRow : OpenClaim := { program := "ytkeheickaogpiaa", sum := "15df3a8ed221534f60046cf1e9995a573cb6c56ea526d0b4f517c232bade87fb", func := "cuirass/cuirasslaw10.CodecChips", spec := "codecChips", unfollowed := true, recurses := true, apart := false }
def CodecChipsSaid : Prop := codecChipsRow.holds Try.pinned (OpenSpec.ofChange codecChipsSpec)

/-- ITS FALSE NEIGHBOUR: 'it returns false'. Refute it at one input. -/
def codecChipsWrong : ChangeSpec := { name := "codecChips", fn := fun _ => fun
  | [d1, d2, d3, d4, d5] => { results := [.lit (.bool false)], args := [d1, d2, d3, d4, d5] }
  | _ => none }
def CodecChipsWrongFalsely : Prop := codecChipsRow.holds Try.pinned (OpenSpec.ofChange codecChipsWrong)

/- THE SECOND FORM. 'bulk': how many values and letters a reading holds, each counted each time it is reached (what is shared counts as often as it is met; a slice's spare places count too). A statement '..UptoSaid' is the law's where the arguments, and the package variables that the reading takes, are together of bulk at most 1048576: NARROWER than '..Said'. Prove '..Said' where nothing that the law and all that it calls make is longer than what came in: it says more and counts as full. Else prove '..UptoSaid'. A law counts once. -/
mutual
def uptoBulk {H : Type} : DataW H → Nat
  | .lit (.string bytes) => bytes.length + 1
  | .lit _ => 1
  | .nil => 1
  | .ptr d => uptoBulk d + 1
  | .slice elems spare => uptoBulkAll elems + uptoBulkAll spare + 1
  | .agg parts => uptoBulkAll parts + 1
  | .iface _ d => uptoBulk d + 1
  | .map entries => uptoBulkEntries entries + 1
  | .held _ => 1
def uptoBulkAll {H : Type} : List (DataW H) → Nat
  | [] => 0
  | d :: r => uptoBulk d + uptoBulkAll r
def uptoBulkEntries {H : Type} : List (Lit × DataW H) → Nat
  | [] => 0
  | x :: r => uptoBulkEntry x + uptoBulkEntries r
def uptoBulkEntry {H : Type} : Lit × DataW H → Nat
  | (.string bytes, d) => bytes.length + uptoBulk d + 1
  | (_, d) => uptoBulk d + 1
 end
def uptoSmall : (H : Type) → List (DataW H) → Bool := fun _ ds => decide (uptoBulkAll ds ≤ 1048576)
def OpenSpec.upto (s : _root_.Go.ChangeSpec) : _root_.Go.OpenSpec := { _root_.Go.OpenSpec.ofChange s with cond := some uptoSmall }

/-- 'cuirasslaw10.CodecEncodes', WHERE WHAT IT READS IS OF BULK AT MOST 1048576: true; the input reads as it did. -/
def codecEncodesUptoRow : OpenClaim := { program := "ytkeheickaogpiaa", sum := "15df3a8ed221534f60046cf1e9995a573cb6c56ea526d0b4f517c232bade87fb", func := "cuirass/cuirasslaw10.CodecEncodes", spec := "codecEncodes", unfollowed := true, recurses := true, apart := false, narrowed := true }
def CodecEncodesUptoSaid : Prop := codecEncodesUptoRow.holds Try.pinned (OpenSpec.upto codecEncodesSpec)

/-- 'cuirasslaw10.CodecDecodes', WHERE WHAT IT READS IS OF BULK AT MOST 1048576: true; the input reads as it did. -/
def codecDecodesUptoRow : OpenClaim := { program := "ytkeheickaogpiaa", sum := "15df3a8ed221534f60046cf1e9995a573cb6c56ea526d0b4f517c232bade87fb", func := "cuirass/cuirasslaw10.CodecDecodes", spec := "codecDecodes", unfollowed := true, recurses := true, apart := false, narrowed := true }
def CodecDecodesUptoSaid : Prop := codecDecodesUptoRow.holds Try.pinned (OpenSpec.upto codecDecodesSpec)

/-- 'cuirasslaw10.CodecCorrects', WHERE WHAT IT READS IS OF BULK AT MOST 1048576: true; the input reads as it did. -/
def codecCorrectsUptoRow : OpenClaim := { program := "ytkeheickaogpiaa", sum := "15df3a8ed221534f60046cf1e9995a573cb6c56ea526d0b4f517c232bade87fb", func := "cuirass/cuirasslaw10.CodecCorrects", spec := "codecCorrects", unfollowed := true, recurses := true, apart := false, narrowed := true }
def CodecCorrectsUptoSaid : Prop := codecCorrectsUptoRow.holds Try.pinned (OpenSpec.upto codecCorrectsSpec)

/-- 'cuirasslaw10.CodecDetects', WHERE WHAT IT READS IS OF BULK AT MOST 1048576: true; the input reads as it did. -/
def codecDetectsUptoRow : OpenClaim := { program := "ytkeheickaogpiaa", sum := "15df3a8ed221534f60046cf1e9995a573cb6c56ea526d0b4f517c232bade87fb", func := "cuirass/cuirasslaw10.CodecDetects", spec := "codecDetects", unfollowed := true, recurses := true, apart := false, narrowed := true }
def CodecDetectsUptoSaid : Prop := codecDetectsUptoRow.holds Try.pinned (OpenSpec.upto codecDetectsSpec)

/-- 'cuirasslaw10.CodecStrays', WHERE WHAT IT READS IS OF BULK AT MOST 1048576: true; the input reads as it did. -/
def codecStraysUptoRow : OpenClaim := { program := "ytkeheickaogpiaa", sum := "15df3a8ed221534f60046cf1e9995a573cb6c56ea526d0b4f517c232bade87fb", func := "cuirass/cuirasslaw10.CodecStrays", spec := "codecStrays", unfollowed := true, recurses := true, apart := false, narrowed := true }
def CodecStraysUptoSaid : Prop := codecStraysUptoRow.holds Try.pinned (OpenSpec.upto codecStraysSpec)

/-- 'cuirasslaw10.CodecSame', WHERE WHAT IT READS IS OF BULK AT MOST 1048576: true; the input reads as it did. -/
def codecSameUptoRow : OpenClaim := { program := "ytkeheickaogpiaa", sum := "15df3a8ed221534f60046cf1e9995a573cb6c56ea526d0b4f517c232bade87fb", func := "cuirass/cuirasslaw10.CodecSame", spec := "codecSame", unfollowed := true, recurses := true, apart := false, narrowed := true }
def CodecSameUptoSaid : Prop := codecSameUptoRow.holds Try.pinned (OpenSpec.upto codecSameSpec)

/-- 'cuirasslaw10.CodecIndex', WHERE WHAT IT READS IS OF BULK AT MOST 1048576: true; the input reads as it did. -/
def codecIndexUptoRow : OpenClaim := { program := "ytkeheickaogpiaa", sum := "15df3a8ed221534f60046cf1e9995a573cb6c56ea526d0b4f517c232bade87fb", func := "cuirass/cuirasslaw10.CodecIndex", spec := "codecIndex", unfollowed := true, recurses := true, apart := false, narrowed := true }
def CodecIndexUptoSaid : Prop := codecIndexUptoRow.holds Try.pinned (OpenSpec.upto codecIndexSpec)

/-- 'cuirasslaw10.CodecChips', WHERE WHAT IT READS IS OF BULK AT MOST 1048576: true; the input reads as it did. -/
def codecChipsUptoRow : OpenClaim := { program := "ytkeheickaogpiaa", sum := "15df3a8ed221534f60046cf1e9995a573cb6c56ea526d0b4f517c232bade87fb", func := "cuirass/cuirasslaw10.CodecChips", spec := "codecChips", unfollowed := true, recurses := true, apart := false, narrowed := true }
def CodecChipsUptoSaid : Prop := codecChipsUptoRow.holds Try.pinned (OpenSpec.upto codecChipsSpec)

end Rows
end Go.Proofs.Ytkeheickaogpiaa
