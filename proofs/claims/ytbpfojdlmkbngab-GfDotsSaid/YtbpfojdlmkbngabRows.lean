/-
  No cell of these rows narrows 'for every input' (looked for: loops, veiled, ifaces, maps, wideKeys, modest, calm, conditions, laid).
  DERIVED. THE GIVEN ROWS OF THIS SEAT. 5 by the template 'for every input the law returns true; each argument reads behind the call as it read before'; 0 by the template 'total and deterministic' (their statements: YtbpfojdlmkbngabTotals.lean).
  GIVEN WITH THE SEED: the statements are not yours to turn. If you find one false, say at which input.
  Laid BY PROGRAM, IN A SANDBOX (cutbox-rows.mjs): the forced cells as the released guide's own fill.sh prints them over the translation d6fdd53b1f9921a0… (all of the seat's roots in one cut). By AI agents, Wed Nov 11 2026. No macro, syntax, notation, axiom, sorry.
-/
import Derived.Test.YtbpfojdlmkbngabChecked
import GoSem.Claim
import GoSem.ClaimJoined
import GoSem.ClaimMapViews
import Derived.JoinedTies
import Derived.KernelRfl
namespace Go.Proofs.Ytbpfojdlmkbngab
/- THE CELL 'sum', in the pinned program and in every row, IS THE sha256 OF THE DUMP (.gsa) THAT YtbpfojdlmkbngabProg.lean LOADS. Nothing in Lean hashes anything: it is a label: what it is worth is what the hold of that sum in a sandbox is worth. -/
noncomputable def Try.pinned : Pinned := { name := "ytbpfojdlmkbngab", sum := "d6fdd53b1f9921a03e3e8d3995fff6334bb01beb539d1634fadb5f6ccc9749f4", checked := Try.checked }
namespace Rows
def none {H : Type} : Left H := { results := [], args := [] }

/-- 'cuirasslaw01.GfLogs': WHATEVER THE INPUT: true; the input reads as it did. -/
def gfLogsSpec : ChangeSpec := { name := "gfLogs", fn := fun _ => fun
  | [d1, d2] => { results := [.lit (.bool true)], args := [d1, d2] }
  | _ => none }
def gfLogsRow : OpenClaim := { program := "ytbpfojdlmkbngab", sum := "d6fdd53b1f9921a03e3e8d3995fff6334bb01beb539d1634fadb5f6ccc9749f4", func := "cuirass/cuirasslaw01.GfLogs", spec := "gfLogs", apart := false }
def GfLogsSaid : Prop := gfLogsRow.holds Try.pinned (OpenSpec.ofChange gfLogsSpec)

/-- ITS FALSE NEIGHBOUR: 'it returns false'. Refute it at one input. -/
def gfLogsWrong : ChangeSpec := { name := "gfLogs", fn := fun _ => fun
  | [d1, d2] => { results := [.lit (.bool false)], args := [d1, d2] }
  | _ => none }
def GfLogsWrongFalsely : Prop := gfLogsRow.holds Try.pinned (OpenSpec.ofChange gfLogsWrong)

/-- 'cuirasslaw01.GfMuls': WHATEVER THE INPUT: true; the input reads as it did. -/
def gfMulsSpec : ChangeSpec := { name := "gfMuls", fn := fun _ => fun
  | [d1, d2] => { results := [.lit (.bool true)], args := [d1, d2] }
  | _ => none }
def gfMulsRow : OpenClaim := { program := "ytbpfojdlmkbngab", sum := "d6fdd53b1f9921a03e3e8d3995fff6334bb01beb539d1634fadb5f6ccc9749f4", func := "cuirass/cuirasslaw01.GfMuls", spec := "gfMuls", apart := false }
def GfMulsSaid : Prop := gfMulsRow.holds Try.pinned (OpenSpec.ofChange gfMulsSpec)

/-- ITS FALSE NEIGHBOUR: 'it returns false'. Refute it at one input. -/
def gfMulsWrong : ChangeSpec := { name := "gfMuls", fn := fun _ => fun
  | [d1, d2] => { results := [.lit (.bool false)], args := [d1, d2] }
  | _ => none }
def GfMulsWrongFalsely : Prop := gfMulsRow.holds Try.pinned (OpenSpec.ofChange gfMulsWrong)

/-- 'cuirasslaw01.GfDots': WHATEVER THE INPUT: true; the input reads as it did. -/
def gfDotsSpec : ChangeSpec := { name := "gfDots", fn := fun _ => fun
  | [d1, d2, d3, d4, d5] => { results := [.lit (.bool true)], args := [d1, d2, d3, d4, d5] }
  | _ => none }
def gfDotsRow : OpenClaim := { program := "ytbpfojdlmkbngab", sum := "d6fdd53b1f9921a03e3e8d3995fff6334bb01beb539d1634fadb5f6ccc9749f4", func := "cuirass/cuirasslaw01.GfDots", spec := "gfDots", unfollowed := true, recurses := true, apart := false }
def GfDotsSaid : Prop := gfDotsRow.holds Try.pinned (OpenSpec.ofChange gfDotsSpec)

/-- ITS FALSE NEIGHBOUR: 'it returns false'. Refute it at one input. -/
def gfDotsWrong : ChangeSpec := { name := "gfDots", fn := fun _ => fun
  | [d1, d2, d3, d4, d5] => { results := [.lit (.bool false)], args := [d1, d2, d3, d4, d5] }
  | _ => none }
def GfDotsWrongFalsely : Prop := gfDotsRow.holds Try.pinned (OpenSpec.ofChange gfDotsWrong)

/-- 'cuirasslaw03.BitPlaces': WHATEVER THE INPUT: true; the input reads as it did. -/
def bitPlacesSpec : ChangeSpec := { name := "bitPlaces", fn := fun _ => fun
  | [d1, d2] => { results := [.lit (.bool true)], args := [d1, d2] }
  | _ => none }
def bitPlacesRow : OpenClaim := { program := "ytbpfojdlmkbngab", sum := "d6fdd53b1f9921a03e3e8d3995fff6334bb01beb539d1634fadb5f6ccc9749f4", func := "cuirass/cuirasslaw03.BitPlaces", spec := "bitPlaces", unfollowed := true, recurses := true, apart := false }
def BitPlacesSaid : Prop := bitPlacesRow.holds Try.pinned (OpenSpec.ofChange bitPlacesSpec)

/-- ITS FALSE NEIGHBOUR: 'it returns false'. Refute it at one input. -/
def bitPlacesWrong : ChangeSpec := { name := "bitPlaces", fn := fun _ => fun
  | [d1, d2] => { results := [.lit (.bool false)], args := [d1, d2] }
  | _ => none }
def BitPlacesWrongFalsely : Prop := bitPlacesRow.holds Try.pinned (OpenSpec.ofChange bitPlacesWrong)

/-- 'cuirasslaw03.BitBytes': WHATEVER THE INPUT: true; the input reads as it did. -/
def bitBytesSpec : ChangeSpec := { name := "bitBytes", fn := fun _ => fun
  | [d1, d2, d3] => { results := [.lit (.bool true)], args := [d1, d2, d3] }
  | _ => none }
def bitBytesRow : OpenClaim := { program := "ytbpfojdlmkbngab", sum := "d6fdd53b1f9921a03e3e8d3995fff6334bb01beb539d1634fadb5f6ccc9749f4", func := "cuirass/cuirasslaw03.BitBytes", spec := "bitBytes", unfollowed := true, recurses := true, apart := false }
def BitBytesSaid : Prop := bitBytesRow.holds Try.pinned (OpenSpec.ofChange bitBytesSpec)

/-- ITS FALSE NEIGHBOUR: 'it returns false'. Refute it at one input. -/
def bitBytesWrong : ChangeSpec := { name := "bitBytes", fn := fun _ => fun
  | [d1, d2, d3] => { results := [.lit (.bool false)], args := [d1, d2, d3] }
  | _ => none }
def BitBytesWrongFalsely : Prop := bitBytesRow.holds Try.pinned (OpenSpec.ofChange bitBytesWrong)

/- THE SECOND FORM. 'bulk': how many values and letters a reading holds, each counted each time it is reached (what is shared counts as often as it is met; a slice's spare places count too). A statement '..UptoSaid' is the law's where the arguments, and the package variables that the reading takes, are together of bulk at most 1048576: NARROWER than '..Said'. Prove '..Said' where nothing that the law and all that it calls make is longer than what came in: it says more and counts as full. Else prove '..UptoSaid'. A law counts once. -/
mutual
def uptoBulk {H : Type} : DataW H → Nat
  | .lit (.string bytes) => bytes.length + 1
  | .lit _ => 1
  | .nil => 1
  | .ptr d => uptoBulk d + 1
  | .slice elems spare => uptoBulkAll elems + uptoBulkAll spare + 1
  | .agg parts => uptoBulkAll parts + 1
  | .iface _ d => uptoBulk d + 1
  | .map entries => uptoBulkEntries entries + 1
  | .held _ => 1
def uptoBulkAll {H : Type} : List (DataW H) → Nat
  | [] => 0
  | d :: r => uptoBulk d + uptoBulkAll r
def uptoBulkEntries {H : Type} : List (Lit × DataW H) → Nat
  | [] => 0
  | x :: r => uptoBulkEntry x + uptoBulkEntries r
def uptoBulkEntry {H : Type} : Lit × DataW H → Nat
  | (.string bytes, d) => bytes.length + uptoBulk d + 1
  | (_, d) => uptoBulk d + 1
 end
def uptoSmall : (H : Type) → List (DataW H) → Bool := fun _ ds => decide (uptoBulkAll ds ≤ 1048576)
def OpenSpec.upto (s : _root_.Go.ChangeSpec) : _root_.Go.OpenSpec := { _root_.Go.OpenSpec.ofChange s with cond := some uptoSmall }

/-- 'cuirasslaw01.GfLogs', WHERE WHAT IT READS IS OF BULK AT MOST 1048576: true; the input reads as it did. -/
def gfLogsUptoRow : OpenClaim := { program := "ytbpfojdlmkbngab", sum := "d6fdd53b1f9921a03e3e8d3995fff6334bb01beb539d1634fadb5f6ccc9749f4", func := "cuirass/cuirasslaw01.GfLogs", spec := "gfLogs", apart := false, narrowed := true }
def GfLogsUptoSaid : Prop := gfLogsUptoRow.holds Try.pinned (OpenSpec.upto gfLogsSpec)

/-- 'cuirasslaw01.GfMuls', WHERE WHAT IT READS IS OF BULK AT MOST 1048576: true; the input reads as it did. -/
def gfMulsUptoRow : OpenClaim := { program := "ytbpfojdlmkbngab", sum := "d6fdd53b1f9921a03e3e8d3995fff6334bb01beb539d1634fadb5f6ccc9749f4", func := "cuirass/cuirasslaw01.GfMuls", spec := "gfMuls", apart := false, narrowed := true }
def GfMulsUptoSaid : Prop := gfMulsUptoRow.holds Try.pinned (OpenSpec.upto gfMulsSpec)

/-- 'cuirasslaw01.GfDots', WHERE WHAT IT READS IS OF BULK AT MOST 1048576: true; the input reads as it did. -/
def gfDotsUptoRow : OpenClaim := { program := "ytbpfojdlmkbngab", sum := "d6fdd53b1f9921a03e3e8d3995fff6334bb01beb539d1634fadb5f6ccc9749f4", func := "cuirass/cuirasslaw01.GfDots", spec := "gfDots", unfollowed := true, recurses := true, apart := false, narrowed := true }
def GfDotsUptoSaid : Prop := gfDotsUptoRow.holds Try.pinned (OpenSpec.upto gfDotsSpec)

/-- 'cuirasslaw03.BitPlaces', WHERE WHAT IT READS IS OF BULK AT MOST 1048576: true; the input reads as it did. -/
def bitPlacesUptoRow : OpenClaim := { program := "ytbpfojdlmkbngab", sum := "d6fdd53b1f9921a03e3e8d3995fff6334bb01beb539d1634fadb5f6ccc9749f4", func := "cuirass/cuirasslaw03.BitPlaces", spec := "bitPlaces", unfollowed := true, recurses := true, apart := false, narrowed := true }
def BitPlacesUptoSaid : Prop := bitPlacesUptoRow.holds Try.pinned (OpenSpec.upto bitPlacesSpec)

/-- 'cuirasslaw03.BitBytes', WHERE WHAT IT READS IS OF BULK AT MOST 1048576: true; the input reads as it did. -/
def bitBytesUptoRow : OpenClaim := { program := "ytbpfojdlmkbngab", sum := "d6fdd53b1f9921a03e3e8d3995fff6334bb01beb539d1634fadb5f6ccc9749f4", func := "cuirass/cuirasslaw03.BitBytes", spec := "bitBytes", unfollowed := true, recurses := true, apart := false, narrowed := true }
def BitBytesUptoSaid : Prop := bitBytesUptoRow.holds Try.pinned (OpenSpec.upto bitBytesSpec)

end Rows
end Go.Proofs.Ytbpfojdlmkbngab
