/-
  No cell of these rows narrows 'for every input' (looked for: loops, veiled, ifaces, maps, wideKeys, modest, calm, conditions, laid).
  DERIVED. THE GIVEN ROWS OF THIS SEAT. 8 by the template 'for every input the law returns true; each argument reads behind the call as it read before'; 0 by the template 'total and deterministic' (their statements: YtbcodenfkijdnaaGreatTotals.lean).
  GIVEN WITH THE SEED: the statements are not yours to turn. If you find one false, say at which input.
  Laid BY PROGRAM, IN A SANDBOX (cutbox-rows.mjs): the forced cells as the released guide's own fill.sh prints them over the translation 242c560b5dde2364… (all of the seat's roots in one cut). By AI agents, Wed Nov 11 2026. No macro, syntax, notation, axiom, sorry.
-/
import Derived.Test.YtbcodenfkijdnaaGreatChecked
import GoSem.Claim
import GoSem.ClaimJoined
import GoSem.ClaimMapViews
import Derived.JoinedTies
import Derived.KernelRfl
namespace Go.Proofs.YtbcodenfkijdnaaGreat
/- THE CELL 'sum', in the pinned program and in every row, IS THE sha256 OF THE DUMP (.gsa) THAT YtbcodenfkijdnaaGreatProg.lean LOADS. Nothing in Lean hashes anything: it is a label: what it is worth is what the hold of that sum in a sandbox is worth. -/
noncomputable def Tryz.pinned : Pinned := { name := "ytbcodenfkijdnaagreat", sum := "242c560b5dde23646fbf7a1ebea88a82ebe138797168b5819e55e906895ba860", checked := Tryz.checked }
namespace Rows
def none {H : Type} : Left H := { results := [], args := [] }

/-- 'cuirasstop.WholeLog': WHATEVER THE INPUT: true; the input reads as it did. -/
def wholeLogSpec : ChangeSpec := { name := "wholeLog", fn := fun _ => fun
  | [d1, d2] => { results := [.lit (.bool true)], args := [d1, d2] }
  | _ => none }
def wholeLogRow : OpenClaim := { program := "ytbcodenfkijdnaagreat", sum := "242c560b5dde23646fbf7a1ebea88a82ebe138797168b5819e55e906895ba860", func := "cuirass/cuirasstop.WholeLog", spec := "wholeLog", unfollowed := true, recurses := true, apart := false }
def WholeLogSaid : Prop := wholeLogRow.holds Tryz.pinned (OpenSpec.ofChange wholeLogSpec)

/-- ITS FALSE NEIGHBOUR: 'it returns false'. Refute it at one input. -/
def wholeLogWrong : ChangeSpec := { name := "wholeLog", fn := fun _ => fun
  | [d1, d2] => { results := [.lit (.bool false)], args := [d1, d2] }
  | _ => none }
def WholeLogWrongFalsely : Prop := wholeLogRow.holds Tryz.pinned (OpenSpec.ofChange wholeLogWrong)

/-- 'cuirasstop.WholeReserve': WHATEVER THE INPUT: true; the input reads as it did. -/
def wholeReserveSpec : ChangeSpec := { name := "wholeReserve", fn := fun _ => fun
  | [d1, d2] => { results := [.lit (.bool true)], args := [d1, d2] }
  | _ => none }
def wholeReserveRow : OpenClaim := { program := "ytbcodenfkijdnaagreat", sum := "242c560b5dde23646fbf7a1ebea88a82ebe138797168b5819e55e906895ba860", func := "cuirass/cuirasstop.WholeReserve", spec := "wholeReserve", unfollowed := true, recurses := true, apart := false }
def WholeReserveSaid : Prop := wholeReserveRow.holds Tryz.pinned (OpenSpec.ofChange wholeReserveSpec)

/-- ITS FALSE NEIGHBOUR: 'it returns false'. Refute it at one input. -/
def wholeReserveWrong : ChangeSpec := { name := "wholeReserve", fn := fun _ => fun
  | [d1, d2] => { results := [.lit (.bool false)], args := [d1, d2] }
  | _ => none }
def WholeReserveWrongFalsely : Prop := wholeReserveRow.holds Tryz.pinned (OpenSpec.ofChange wholeReserveWrong)

/-- 'cuirasstop.WholeTold': WHATEVER THE INPUT: true; the input reads as it did. -/
def wholeToldSpec : ChangeSpec := { name := "wholeTold", fn := fun _ => fun
  | [d1, d2] => { results := [.lit (.bool true)], args := [d1, d2] }
  | _ => none }
def wholeToldRow : OpenClaim := { program := "ytbcodenfkijdnaagreat", sum := "242c560b5dde23646fbf7a1ebea88a82ebe138797168b5819e55e906895ba860", func := "cuirass/cuirasstop.WholeTold", spec := "wholeTold", unfollowed := true, recurses := true, apart := false }
def WholeToldSaid : Prop := wholeToldRow.holds Tryz.pinned (OpenSpec.ofChange wholeToldSpec)

/-- ITS FALSE NEIGHBOUR: 'it returns false'. Refute it at one input. -/
def wholeToldWrong : ChangeSpec := { name := "wholeTold", fn := fun _ => fun
  | [d1, d2] => { results := [.lit (.bool false)], args := [d1, d2] }
  | _ => none }
def WholeToldWrongFalsely : Prop := wholeToldRow.holds Tryz.pinned (OpenSpec.ofChange wholeToldWrong)

/-- 'cuirasstop.WholeModes': WHATEVER THE INPUT: true; the input reads as it did. -/
def wholeModesSpec : ChangeSpec := { name := "wholeModes", fn := fun _ => fun
  | [d1, d2, d3, d4] => { results := [.lit (.bool true)], args := [d1, d2, d3, d4] }
  | _ => none }
def wholeModesRow : OpenClaim := { program := "ytbcodenfkijdnaagreat", sum := "242c560b5dde23646fbf7a1ebea88a82ebe138797168b5819e55e906895ba860", func := "cuirass/cuirasstop.WholeModes", spec := "wholeModes", unfollowed := true, recurses := true, apart := false }
def WholeModesSaid : Prop := wholeModesRow.holds Tryz.pinned (OpenSpec.ofChange wholeModesSpec)

/-- ITS FALSE NEIGHBOUR: 'it returns false'. Refute it at one input. -/
def wholeModesWrong : ChangeSpec := { name := "wholeModes", fn := fun _ => fun
  | [d1, d2, d3, d4] => { results := [.lit (.bool false)], args := [d1, d2, d3, d4] }
  | _ => none }
def WholeModesWrongFalsely : Prop := wholeModesRow.holds Tryz.pinned (OpenSpec.ofChange wholeModesWrong)

/-- 'cuirasstop.WholeLater': WHATEVER THE INPUT: true; the input reads as it did. -/
def wholeLaterSpec : ChangeSpec := { name := "wholeLater", fn := fun _ => fun
  | [d1, d2, d3, d4] => { results := [.lit (.bool true)], args := [d1, d2, d3, d4] }
  | _ => none }
def wholeLaterRow : OpenClaim := { program := "ytbcodenfkijdnaagreat", sum := "242c560b5dde23646fbf7a1ebea88a82ebe138797168b5819e55e906895ba860", func := "cuirass/cuirasstop.WholeLater", spec := "wholeLater", unfollowed := true, recurses := true, apart := false }
def WholeLaterSaid : Prop := wholeLaterRow.holds Tryz.pinned (OpenSpec.ofChange wholeLaterSpec)

/-- ITS FALSE NEIGHBOUR: 'it returns false'. Refute it at one input. -/
def wholeLaterWrong : ChangeSpec := { name := "wholeLater", fn := fun _ => fun
  | [d1, d2, d3, d4] => { results := [.lit (.bool false)], args := [d1, d2, d3, d4] }
  | _ => none }
def WholeLaterWrongFalsely : Prop := wholeLaterRow.holds Tryz.pinned (OpenSpec.ofChange wholeLaterWrong)

/-- 'cuirasstop.WholeChip': WHATEVER THE INPUT: true; the input reads as it did. -/
def wholeChipSpec : ChangeSpec := { name := "wholeChip", fn := fun _ => fun
  | [d1, d2, d3, d4, d5] => { results := [.lit (.bool true)], args := [d1, d2, d3, d4, d5] }
  | _ => none }
def wholeChipRow : OpenClaim := { program := "ytbcodenfkijdnaagreat", sum := "242c560b5dde23646fbf7a1ebea88a82ebe138797168b5819e55e906895ba860", func := "cuirass/cuirasstop.WholeChip", spec := "wholeChip", unfollowed := true, recurses := true, apart := false }
def WholeChipSaid : Prop := wholeChipRow.holds Tryz.pinned (OpenSpec.ofChange wholeChipSpec)

/-- ITS FALSE NEIGHBOUR: 'it returns false'. Refute it at one input. -/
def wholeChipWrong : ChangeSpec := { name := "wholeChip", fn := fun _ => fun
  | [d1, d2, d3, d4, d5] => { results := [.lit (.bool false)], args := [d1, d2, d3, d4, d5] }
  | _ => none }
def WholeChipWrongFalsely : Prop := wholeChipRow.holds Tryz.pinned (OpenSpec.ofChange wholeChipWrong)

/-- 'cuirasstop.WholeCalm': WHATEVER THE INPUT: true; the input reads as it did. -/
def wholeCalmSpec : ChangeSpec := { name := "wholeCalm", fn := fun _ => fun
  | [d1, d2] => { results := [.lit (.bool true)], args := [d1, d2] }
  | _ => none }
def wholeCalmRow : OpenClaim := { program := "ytbcodenfkijdnaagreat", sum := "242c560b5dde23646fbf7a1ebea88a82ebe138797168b5819e55e906895ba860", func := "cuirass/cuirasstop.WholeCalm", spec := "wholeCalm", unfollowed := true, recurses := true, apart := false }
def WholeCalmSaid : Prop := wholeCalmRow.holds Tryz.pinned (OpenSpec.ofChange wholeCalmSpec)

/-- ITS FALSE NEIGHBOUR: 'it returns false'. Refute it at one input. -/
def wholeCalmWrong : ChangeSpec := { name := "wholeCalm", fn := fun _ => fun
  | [d1, d2] => { results := [.lit (.bool false)], args := [d1, d2] }
  | _ => none }
def WholeCalmWrongFalsely : Prop := wholeCalmRow.holds Tryz.pinned (OpenSpec.ofChange wholeCalmWrong)

/-- 'cuirasstop.WholeGone': WHATEVER THE INPUT: true; the input reads as it did. -/
def wholeGoneSpec : ChangeSpec := { name := "wholeGone", fn := fun _ => fun
  | [d1, d2, d3] => { results := [.lit (.bool true)], args := [d1, d2, d3] }
  | _ => none }
def wholeGoneRow : OpenClaim := { program := "ytbcodenfkijdnaagreat", sum := "242c560b5dde23646fbf7a1ebea88a82ebe138797168b5819e55e906895ba860", func := "cuirass/cuirasstop.WholeGone", spec := "wholeGone", unfollowed := true, recurses := true, apart := false }
def WholeGoneSaid : Prop := wholeGoneRow.holds Tryz.pinned (OpenSpec.ofChange wholeGoneSpec)

/-- ITS FALSE NEIGHBOUR: 'it returns false'. Refute it at one input. -/
def wholeGoneWrong : ChangeSpec := { name := "wholeGone", fn := fun _ => fun
  | [d1, d2, d3] => { results := [.lit (.bool false)], args := [d1, d2, d3] }
  | _ => none }
def WholeGoneWrongFalsely : Prop := wholeGoneRow.holds Tryz.pinned (OpenSpec.ofChange wholeGoneWrong)

/- THE SECOND FORM. 'bulk': how many values and letters a reading holds, each counted each time it is reached (what is shared counts as often as it is met; a slice's spare places count too). A statement '..UptoSaid' is the law's where the arguments, and the package variables that the reading takes, are together of bulk at most 1048576: NARROWER than '..Said'. Prove '..Said' where nothing that the law and all that it calls make is longer than what came in: it says more and counts as full. Else prove '..UptoSaid'. A law counts once. -/
mutual
def uptoBulk {H : Type} : DataW H → Nat
  | .lit (.string bytes) => bytes.length + 1
  | .lit _ => 1
  | .nil => 1
  | .ptr d => uptoBulk d + 1
  | .slice elems spare => uptoBulkAll elems + uptoBulkAll spare + 1
  | .agg parts => uptoBulkAll parts + 1
  | .iface _ d => uptoBulk d + 1
  | .map entries => uptoBulkEntries entries + 1
  | .held _ => 1
def uptoBulkAll {H : Type} : List (DataW H) → Nat
  | [] => 0
  | d :: r => uptoBulk d + uptoBulkAll r
def uptoBulkEntries {H : Type} : List (Lit × DataW H) → Nat
  | [] => 0
  | x :: r => uptoBulkEntry x + uptoBulkEntries r
def uptoBulkEntry {H : Type} : Lit × DataW H → Nat
  | (.string bytes, d) => bytes.length + uptoBulk d + 1
  | (_, d) => uptoBulk d + 1
 end
def uptoSmall : (H : Type) → List (DataW H) → Bool := fun _ ds => decide (uptoBulkAll ds ≤ 1048576)
def OpenSpec.upto (s : _root_.Go.ChangeSpec) : _root_.Go.OpenSpec := { _root_.Go.OpenSpec.ofChange s with cond := some uptoSmall }

/-- 'cuirasstop.WholeLog', WHERE WHAT IT READS IS OF BULK AT MOST 1048576: true; the input reads as it did. -/
def wholeLogUptoRow : OpenClaim := { program := "ytbcodenfkijdnaagreat", sum := "242c560b5dde23646fbf7a1ebea88a82ebe138797168b5819e55e906895ba860", func := "cuirass/cuirasstop.WholeLog", spec := "wholeLog", unfollowed := true, recurses := true, apart := false, narrowed := true }
def WholeLogUptoSaid : Prop := wholeLogUptoRow.holds Tryz.pinned (OpenSpec.upto wholeLogSpec)

/-- 'cuirasstop.WholeReserve', WHERE WHAT IT READS IS OF BULK AT MOST 1048576: true; the input reads as it did. -/
def wholeReserveUptoRow : OpenClaim := { program := "ytbcodenfkijdnaagreat", sum := "242c560b5dde23646fbf7a1ebea88a82ebe138797168b5819e55e906895ba860", func := "cuirass/cuirasstop.WholeReserve", spec := "wholeReserve", unfollowed := true, recurses := true, apart := false, narrowed := true }
def WholeReserveUptoSaid : Prop := wholeReserveUptoRow.holds Tryz.pinned (OpenSpec.upto wholeReserveSpec)

/-- 'cuirasstop.WholeTold', WHERE WHAT IT READS IS OF BULK AT MOST 1048576: true; the input reads as it did. -/
def wholeToldUptoRow : OpenClaim := { program := "ytbcodenfkijdnaagreat", sum := "242c560b5dde23646fbf7a1ebea88a82ebe138797168b5819e55e906895ba860", func := "cuirass/cuirasstop.WholeTold", spec := "wholeTold", unfollowed := true, recurses := true, apart := false, narrowed := true }
def WholeToldUptoSaid : Prop := wholeToldUptoRow.holds Tryz.pinned (OpenSpec.upto wholeToldSpec)

/-- 'cuirasstop.WholeModes', WHERE WHAT IT READS IS OF BULK AT MOST 1048576: true; the input reads as it did. -/
def wholeModesUptoRow : OpenClaim := { program := "ytbcodenfkijdnaagreat", sum := "242c560b5dde23646fbf7a1ebea88a82ebe138797168b5819e55e906895ba860", func := "cuirass/cuirasstop.WholeModes", spec := "wholeModes", unfollowed := true, recurses := true, apart := false, narrowed := true }
def WholeModesUptoSaid : Prop := wholeModesUptoRow.holds Tryz.pinned (OpenSpec.upto wholeModesSpec)

/-- 'cuirasstop.WholeLater', WHERE WHAT IT READS IS OF BULK AT MOST 1048576: true; the input reads as it did. -/
def wholeLaterUptoRow : OpenClaim := { program := "ytbcodenfkijdnaagreat", sum := "242c560b5dde23646fbf7a1ebea88a82ebe138797168b5819e55e906895ba860", func := "cuirass/cuirasstop.WholeLater", spec := "wholeLater", unfollowed := true, recurses := true, apart := false, narrowed := true }
def WholeLaterUptoSaid : Prop := wholeLaterUptoRow.holds Tryz.pinned (OpenSpec.upto wholeLaterSpec)

/-- 'cuirasstop.WholeChip', WHERE WHAT IT READS IS OF BULK AT MOST 1048576: true; the input reads as it did. -/
def wholeChipUptoRow : OpenClaim := { program := "ytbcodenfkijdnaagreat", sum := "242c560b5dde23646fbf7a1ebea88a82ebe138797168b5819e55e906895ba860", func := "cuirass/cuirasstop.WholeChip", spec := "wholeChip", unfollowed := true, recurses := true, apart := false, narrowed := true }
def WholeChipUptoSaid : Prop := wholeChipUptoRow.holds Tryz.pinned (OpenSpec.upto wholeChipSpec)

/-- 'cuirasstop.WholeCalm', WHERE WHAT IT READS IS OF BULK AT MOST 1048576: true; the input reads as it did. -/
def wholeCalmUptoRow : OpenClaim := { program := "ytbcodenfkijdnaagreat", sum := "242c560b5dde23646fbf7a1ebea88a82ebe138797168b5819e55e906895ba860", func := "cuirass/cuirasstop.WholeCalm", spec := "wholeCalm", unfollowed := true, recurses := true, apart := false, narrowed := true }
def WholeCalmUptoSaid : Prop := wholeCalmUptoRow.holds Tryz.pinned (OpenSpec.upto wholeCalmSpec)

/-- 'cuirasstop.WholeGone', WHERE WHAT IT READS IS OF BULK AT MOST 1048576: true; the input reads as it did. -/
def wholeGoneUptoRow : OpenClaim := { program := "ytbcodenfkijdnaagreat", sum := "242c560b5dde23646fbf7a1ebea88a82ebe138797168b5819e55e906895ba860", func := "cuirass/cuirasstop.WholeGone", spec := "wholeGone", unfollowed := true, recurses := true, apart := false, narrowed := true }
def WholeGoneUptoSaid : Prop := wholeGoneUptoRow.holds Tryz.pinned (OpenSpec.upto wholeGoneSpec)

end Rows
end Go.Proofs.YtbcodenfkijdnaaGreat
