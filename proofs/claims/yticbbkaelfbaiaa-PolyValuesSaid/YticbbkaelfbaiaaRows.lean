/-
  No cell of these rows narrows 'for every input' (looked for: loops, veiled, ifaces, maps, wideKeys, modest, calm, conditions, laid).
  DERIVED. THE GIVEN ROWS OF THIS SEAT. 6 by the template 'for every input the law returns true; each argument reads behind the call as it read before'; 0 by the template 'total and deterministic' (their statements: YticbbkaelfbaiaaTotals.lean).
  GIVEN WITH THE SEED: the statements are not yours to turn. If you find one false, say at which input.
  Laid BY PROGRAM, IN A SANDBOX (cutbox-rows.mjs): the forced cells as the released guide's own fill.sh prints them over the translation 7c34f4af5e9bbd11… (all of the seat's roots in one cut). By AI agents, Wed Nov 11 2026. No macro, syntax, notation, axiom, sorry.
-/
import Derived.Test.YticbbkaelfbaiaaChecked
import GoSem.Claim
import GoSem.ClaimJoined
import GoSem.ClaimMapViews
import Derived.JoinedTies
import Derived.KernelRfl
namespace Go.Proofs.Yticbbkaelfbaiaa
/- THE CELL 'sum', in the pinned program and in every row, IS THE sha256 OF THE DUMP (.gsa) THAT YticbbkaelfbaiaaProg.lean LOADS. Nothing in Lean hashes anything: it is a label: what it is worth is what the hold of that sum in a sandbox is worth. -/
noncomputable def Try.pinned : Pinned := { name := "yticbbkaelfbaiaa", sum := "7c34f4af5e9bbd11300334a96d5366f2ac257126ab0b676eb0de1d87d32ab4e5", checked := Try.checked }
namespace Rows
def none {H : Type} : Left H := { results := [], args := [] }

/-- 'cuirasslaw02.PolyRoots': WHATEVER THE INPUT: true; the input reads as it did. -/
def polyRootsSpec : ChangeSpec := { name := "polyRoots", fn := fun _ => fun
  | [d1, d2] => { results := [.lit (.bool true)], args := [d1, d2] }
  | _ => none }
def polyRootsRow : OpenClaim := { program := "yticbbkaelfbaiaa", sum := "7c34f4af5e9bbd11300334a96d5366f2ac257126ab0b676eb0de1d87d32ab4e5", func := "cuirass/cuirasslaw02.PolyRoots", spec := "polyRoots", apart := false }
def PolyRootsSaid : Prop := polyRootsRow.holds Try.pinned (OpenSpec.ofChange polyRootsSpec)

/-- ITS FALSE NEIGHBOUR: 'it returns false'. Refute it at one input. -/
def polyRootsWrong : ChangeSpec := { name := "polyRoots", fn := fun _ => fun
  | [d1, d2] => { results := [.lit (.bool false)], args := [d1, d2] }
  | _ => none }
def PolyRootsWrongFalsely : Prop := polyRootsRow.holds Try.pinned (OpenSpec.ofChange polyRootsWrong)

/-- 'cuirasslaw02.PolyRing': WHATEVER THE INPUT: true; the input reads as it did. -/
def polyRingSpec : ChangeSpec := { name := "polyRing", fn := fun _ => fun
  | [d1, d2, d3] => { results := [.lit (.bool true)], args := [d1, d2, d3] }
  | _ => none }
def polyRingRow : OpenClaim := { program := "yticbbkaelfbaiaa", sum := "7c34f4af5e9bbd11300334a96d5366f2ac257126ab0b676eb0de1d87d32ab4e5", func := "cuirass/cuirasslaw02.PolyRing", spec := "polyRing", apart := false }
def PolyRingSaid : Prop := polyRingRow.holds Try.pinned (OpenSpec.ofChange polyRingSpec)

/-- ITS FALSE NEIGHBOUR: 'it returns false'. Refute it at one input. -/
def polyRingWrong : ChangeSpec := { name := "polyRing", fn := fun _ => fun
  | [d1, d2, d3] => { results := [.lit (.bool false)], args := [d1, d2, d3] }
  | _ => none }
def PolyRingWrongFalsely : Prop := polyRingRow.holds Try.pinned (OpenSpec.ofChange polyRingWrong)

/-- 'cuirasslaw02.PolyMuls': WHATEVER THE INPUT: true; the input reads as it did. -/
def polyMulsSpec : ChangeSpec := { name := "polyMuls", fn := fun _ => fun
  | [d1, d2, d3] => { results := [.lit (.bool true)], args := [d1, d2, d3] }
  | _ => none }
def polyMulsRow : OpenClaim := { program := "yticbbkaelfbaiaa", sum := "7c34f4af5e9bbd11300334a96d5366f2ac257126ab0b676eb0de1d87d32ab4e5", func := "cuirass/cuirasslaw02.PolyMuls", spec := "polyMuls", unfollowed := true, recurses := true, apart := false }
def PolyMulsSaid : Prop := polyMulsRow.holds Try.pinned (OpenSpec.ofChange polyMulsSpec)

/-- ITS FALSE NEIGHBOUR: 'it returns false'. Refute it at one input. -/
def polyMulsWrong : ChangeSpec := { name := "polyMuls", fn := fun _ => fun
  | [d1, d2, d3] => { results := [.lit (.bool false)], args := [d1, d2, d3] }
  | _ => none }
def PolyMulsWrongFalsely : Prop := polyMulsRow.holds Try.pinned (OpenSpec.ofChange polyMulsWrong)

/-- 'cuirasslaw02.PolyMods': WHATEVER THE INPUT: true; the input reads as it did. -/
def polyModsSpec : ChangeSpec := { name := "polyMods", fn := fun _ => fun
  | [d1, d2, d3] => { results := [.lit (.bool true)], args := [d1, d2, d3] }
  | _ => none }
def polyModsRow : OpenClaim := { program := "yticbbkaelfbaiaa", sum := "7c34f4af5e9bbd11300334a96d5366f2ac257126ab0b676eb0de1d87d32ab4e5", func := "cuirass/cuirasslaw02.PolyMods", spec := "polyMods", apart := false }
def PolyModsSaid : Prop := polyModsRow.holds Try.pinned (OpenSpec.ofChange polyModsSpec)

/-- ITS FALSE NEIGHBOUR: 'it returns false'. Refute it at one input. -/
def polyModsWrong : ChangeSpec := { name := "polyMods", fn := fun _ => fun
  | [d1, d2, d3] => { results := [.lit (.bool false)], args := [d1, d2, d3] }
  | _ => none }
def PolyModsWrongFalsely : Prop := polyModsRow.holds Try.pinned (OpenSpec.ofChange polyModsWrong)

/-- 'cuirasslaw02.PolyAdds': WHATEVER THE INPUT: true; the input reads as it did. -/
def polyAddsSpec : ChangeSpec := { name := "polyAdds", fn := fun _ => fun
  | [d1, d2, d3, d4] => { results := [.lit (.bool true)], args := [d1, d2, d3, d4] }
  | _ => none }
def polyAddsRow : OpenClaim := { program := "yticbbkaelfbaiaa", sum := "7c34f4af5e9bbd11300334a96d5366f2ac257126ab0b676eb0de1d87d32ab4e5", func := "cuirass/cuirasslaw02.PolyAdds", spec := "polyAdds", apart := false }
def PolyAddsSaid : Prop := polyAddsRow.holds Try.pinned (OpenSpec.ofChange polyAddsSpec)

/-- ITS FALSE NEIGHBOUR: 'it returns false'. Refute it at one input. -/
def polyAddsWrong : ChangeSpec := { name := "polyAdds", fn := fun _ => fun
  | [d1, d2, d3, d4] => { results := [.lit (.bool false)], args := [d1, d2, d3, d4] }
  | _ => none }
def PolyAddsWrongFalsely : Prop := polyAddsRow.holds Try.pinned (OpenSpec.ofChange polyAddsWrong)

/-- 'cuirasslaw02.PolyValues': WHATEVER THE INPUT: true; the input reads as it did. -/
def polyValuesSpec : ChangeSpec := { name := "polyValues", fn := fun _ => fun
  | [d1, d2, d3, d4, d5] => { results := [.lit (.bool true)], args := [d1, d2, d3, d4, d5] }
  | _ => none }
def polyValuesRow : OpenClaim := { program := "yticbbkaelfbaiaa", sum := "7c34f4af5e9bbd11300334a96d5366f2ac257126ab0b676eb0de1d87d32ab4e5", func := "cuirass/cuirasslaw02.PolyValues", spec := "polyValues", unfollowed := true, recurses := true, apart := false }
def PolyValuesSaid : Prop := polyValuesRow.holds Try.pinned (OpenSpec.ofChange polyValuesSpec)

/-- ITS FALSE NEIGHBOUR: 'it returns false'. Refute it at one input. -/
def polyValuesWrong : ChangeSpec := { name := "polyValues", fn := fun _ => fun
  | [d1, d2, d3, d4, d5] => { results := [.lit (.bool false)], args := [d1, d2, d3, d4, d5] }
  | _ => none }
def PolyValuesWrongFalsely : Prop := polyValuesRow.holds Try.pinned (OpenSpec.ofChange polyValuesWrong)

/- THE SECOND FORM. 'bulk': how many values and letters a reading holds, each counted each time it is reached (what is shared counts as often as it is met; a slice's spare places count too). A statement '..UptoSaid' is the law's where the arguments, and the package variables that the reading takes, are together of bulk at most 1048576: NARROWER than '..Said'. Prove '..Said' where nothing that the law and all that it calls make is longer than what came in: it says more and counts as full. Else prove '..UptoSaid'. A law counts once. -/
mutual
def uptoBulk {H : Type} : DataW H → Nat
  | .lit (.string bytes) => bytes.length + 1
  | .lit _ => 1
  | .nil => 1
  | .ptr d => uptoBulk d + 1
  | .slice elems spare => uptoBulkAll elems + uptoBulkAll spare + 1
  | .agg parts => uptoBulkAll parts + 1
  | .iface _ d => uptoBulk d + 1
  | .map entries => uptoBulkEntries entries + 1
  | .held _ => 1
def uptoBulkAll {H : Type} : List (DataW H) → Nat
  | [] => 0
  | d :: r => uptoBulk d + uptoBulkAll r
def uptoBulkEntries {H : Type} : List (Lit × DataW H) → Nat
  | [] => 0
  | x :: r => uptoBulkEntry x + uptoBulkEntries r
def uptoBulkEntry {H : Type} : Lit × DataW H → Nat
  | (.string bytes, d) => bytes.length + uptoBulk d + 1
  | (_, d) => uptoBulk d + 1
 end
def uptoSmall : (H : Type) → List (DataW H) → Bool := fun _ ds => decide (uptoBulkAll ds ≤ 1048576)
def OpenSpec.upto (s : _root_.Go.ChangeSpec) : _root_.Go.OpenSpec := { _root_.Go.OpenSpec.ofChange s with cond := some uptoSmall }

/-- 'cuirasslaw02.PolyRoots', WHERE WHAT IT READS IS OF BULK AT MOST 1048576: true; the input reads as it did. -/
def polyRootsUptoRow : OpenClaim := { program := "yticbbkaelfbaiaa", sum := "7c34f4af5e9bbd11300334a96d5366f2ac257126ab0b676eb0de1d87d32ab4e5", func := "cuirass/cuirasslaw02.PolyRoots", spec := "polyRoots", apart := false, narrowed := true }
def PolyRootsUptoSaid : Prop := polyRootsUptoRow.holds Try.pinned (OpenSpec.upto polyRootsSpec)

/-- 'cuirasslaw02.PolyRing', WHERE WHAT IT READS IS OF BULK AT MOST 1048576: true; the input reads as it did. -/
def polyRingUptoRow : OpenClaim := { program := "yticbbkaelfbaiaa", sum := "7c34f4af5e9bbd11300334a96d5366f2ac257126ab0b676eb0de1d87d32ab4e5", func := "cuirass/cuirasslaw02.PolyRing", spec := "polyRing", apart := false, narrowed := true }
def PolyRingUptoSaid : Prop := polyRingUptoRow.holds Try.pinned (OpenSpec.upto polyRingSpec)

/-- 'cuirasslaw02.PolyMuls', WHERE WHAT IT READS IS OF BULK AT MOST 1048576: true; the input reads as it did. -/
def polyMulsUptoRow : OpenClaim := { program := "yticbbkaelfbaiaa", sum := "7c34f4af5e9bbd11300334a96d5366f2ac257126ab0b676eb0de1d87d32ab4e5", func := "cuirass/cuirasslaw02.PolyMuls", spec := "polyMuls", unfollowed := true, recurses := true, apart := false, narrowed := true }
def PolyMulsUptoSaid : Prop := polyMulsUptoRow.holds Try.pinned (OpenSpec.upto polyMulsSpec)

/-- 'cuirasslaw02.PolyMods', WHERE WHAT IT READS IS OF BULK AT MOST 1048576: true; the input reads as it did. -/
def polyModsUptoRow : OpenClaim := { program := "yticbbkaelfbaiaa", sum := "7c34f4af5e9bbd11300334a96d5366f2ac257126ab0b676eb0de1d87d32ab4e5", func := "cuirass/cuirasslaw02.PolyMods", spec := "polyMods", apart := false, narrowed := true }
def PolyModsUptoSaid : Prop := polyModsUptoRow.holds Try.pinned (OpenSpec.upto polyModsSpec)

/-- 'cuirasslaw02.PolyAdds', WHERE WHAT IT READS IS OF BULK AT MOST 1048576: true; the input reads as it did. -/
def polyAddsUptoRow : OpenClaim := { program := "yticbbkaelfbaiaa", sum := "7c34f4af5e9bbd11300334a96d5366f2ac257126ab0b676eb0de1d87d32ab4e5", func := "cuirass/cuirasslaw02.PolyAdds", spec := "polyAdds", apart := false, narrowed := true }
def PolyAddsUptoSaid : Prop := polyAddsUptoRow.holds Try.pinned (OpenSpec.upto polyAddsSpec)

/-- 'cuirasslaw02.PolyValues', WHERE WHAT IT READS IS OF BULK AT MOST 1048576: true; the input reads as it did. -/
def polyValuesUptoRow : OpenClaim := { program := "yticbbkaelfbaiaa", sum := "7c34f4af5e9bbd11300334a96d5366f2ac257126ab0b676eb0de1d87d32ab4e5", func := "cuirass/cuirasslaw02.PolyValues", spec := "polyValues", unfollowed := true, recurses := true, apart := false, narrowed := true }
def PolyValuesUptoSaid : Prop := polyValuesUptoRow.holds Try.pinned (OpenSpec.upto polyValuesSpec)

end Rows
end Go.Proofs.Yticbbkaelfbaiaa
