/-
  No cell of these rows narrows 'for every input' (looked for: loops, veiled, ifaces, maps, wideKeys, modest, calm, conditions, laid).
  DERIVED. THE GIVEN ROWS OF THIS SEAT. 12 by the template 'for every input the law returns true; each argument reads behind the call as it read before'; 0 by the template 'total and deterministic' (their statements: YtckhkagkpldoiaaTotals.lean).
  GIVEN WITH THE SEED: the statements are not yours to turn. If you find one false, say at which input.
  Laid BY PROGRAM, IN A SANDBOX (cutbox-rows.mjs): the forced cells as the released guide's own fill.sh prints them over the translation e9b42b6ab1210a81… (all of the seat's roots in one cut). By AI agents, Wed Nov 11 2026. No macro, syntax, notation, axiom, sorry.
-/
import Derived.Test.YtckhkagkpldoiaaChecked
import GoSem.Claim
import GoSem.ClaimJoined
import GoSem.ClaimMapViews
import Derived.JoinedTies
import Derived.KernelRfl
namespace Go.Proofs.Ytckhkagkpldoiaa
/- THE CELL 'sum', in the pinned program and in every row, IS THE sha256 OF THE DUMP (.gsa) THAT YtckhkagkpldoiaaProg.lean LOADS. Nothing in Lean hashes anything: it is a label: what it is worth is what the hold of that sum in a sandbox is worth. -/
noncomputable def Try.pinned : Pinned := { name := "ytckhkagkpldoiaa", sum := "e9b42b6ab1210a81ecabb4b3553ded2dde0eddd0a4c74e982a19a37fc0c6fd3c", checked := Try.checked }
namespace Rows
def none {H : Type} : Left H := { results := [], args := [] }

/-- 'cuirasslaw11.FaultRight': WHATEVER THE INPUT: true; the input reads as it did. -/
def faultRightSpec : ChangeSpec := { name := "faultRight", fn := fun _ => fun
  | [d1, d2, d3, d4] => { results := [.lit (.bool true)], args := [d1, d2, d3, d4] }
  | _ => none }
def faultRightRow : OpenClaim := { program := "ytckhkagkpldoiaa", sum := "e9b42b6ab1210a81ecabb4b3553ded2dde0eddd0a4c74e982a19a37fc0c6fd3c", func := "cuirass/cuirasslaw11.FaultRight", spec := "faultRight", unfollowed := true, recurses := true, apart := false }
def FaultRightSaid : Prop := faultRightRow.holds Try.pinned (OpenSpec.ofChange faultRightSpec)

/-- ITS FALSE NEIGHBOUR: 'it returns false'. Refute it at one input. -/
def faultRightWrong : ChangeSpec := { name := "faultRight", fn := fun _ => fun
  | [d1, d2, d3, d4] => { results := [.lit (.bool false)], args := [d1, d2, d3, d4] }
  | _ => none }
def FaultRightWrongFalsely : Prop := faultRightRow.holds Try.pinned (OpenSpec.ofChange faultRightWrong)

/-- 'cuirasslaw11.FaultApplies': WHATEVER THE INPUT: true; the input reads as it did. -/
def faultAppliesSpec : ChangeSpec := { name := "faultApplies", fn := fun _ => fun
  | [d1, d2, d3, d4] => { results := [.lit (.bool true)], args := [d1, d2, d3, d4] }
  | _ => none }
def faultAppliesRow : OpenClaim := { program := "ytckhkagkpldoiaa", sum := "e9b42b6ab1210a81ecabb4b3553ded2dde0eddd0a4c74e982a19a37fc0c6fd3c", func := "cuirass/cuirasslaw11.FaultApplies", spec := "faultApplies", unfollowed := true, recurses := true, apart := false }
def FaultAppliesSaid : Prop := faultAppliesRow.holds Try.pinned (OpenSpec.ofChange faultAppliesSpec)

/-- ITS FALSE NEIGHBOUR: 'it returns false'. Refute it at one input. -/
def faultAppliesWrong : ChangeSpec := { name := "faultApplies", fn := fun _ => fun
  | [d1, d2, d3, d4] => { results := [.lit (.bool false)], args := [d1, d2, d3, d4] }
  | _ => none }
def FaultAppliesWrongFalsely : Prop := faultAppliesRow.holds Try.pinned (OpenSpec.ofChange faultAppliesWrong)

/-- 'cuirasslaw11.FaultLasting': WHATEVER THE INPUT: true; the input reads as it did. -/
def faultLastingSpec : ChangeSpec := { name := "faultLasting", fn := fun _ => fun
  | [d1, d2] => { results := [.lit (.bool true)], args := [d1, d2] }
  | _ => none }
def faultLastingRow : OpenClaim := { program := "ytckhkagkpldoiaa", sum := "e9b42b6ab1210a81ecabb4b3553ded2dde0eddd0a4c74e982a19a37fc0c6fd3c", func := "cuirass/cuirasslaw11.FaultLasting", spec := "faultLasting", unfollowed := true, recurses := true, apart := false }
def FaultLastingSaid : Prop := faultLastingRow.holds Try.pinned (OpenSpec.ofChange faultLastingSpec)

/-- ITS FALSE NEIGHBOUR: 'it returns false'. Refute it at one input. -/
def faultLastingWrong : ChangeSpec := { name := "faultLasting", fn := fun _ => fun
  | [d1, d2] => { results := [.lit (.bool false)], args := [d1, d2] }
  | _ => none }
def FaultLastingWrongFalsely : Prop := faultLastingRow.holds Try.pinned (OpenSpec.ofChange faultLastingWrong)

/-- 'cuirasslaw11.FaultCovers': WHATEVER THE INPUT: true; the input reads as it did. -/
def faultCoversSpec : ChangeSpec := { name := "faultCovers", fn := fun _ => fun
  | [d1, d2, d3, d4] => { results := [.lit (.bool true)], args := [d1, d2, d3, d4] }
  | _ => none }
def faultCoversRow : OpenClaim := { program := "ytckhkagkpldoiaa", sum := "e9b42b6ab1210a81ecabb4b3553ded2dde0eddd0a4c74e982a19a37fc0c6fd3c", func := "cuirass/cuirasslaw11.FaultCovers", spec := "faultCovers", unfollowed := true, recurses := true, apart := false }
def FaultCoversSaid : Prop := faultCoversRow.holds Try.pinned (OpenSpec.ofChange faultCoversSpec)

/-- ITS FALSE NEIGHBOUR: 'it returns false'. Refute it at one input. -/
def faultCoversWrong : ChangeSpec := { name := "faultCovers", fn := fun _ => fun
  | [d1, d2, d3, d4] => { results := [.lit (.bool false)], args := [d1, d2, d3, d4] }
  | _ => none }
def FaultCoversWrongFalsely : Prop := faultCoversRow.holds Try.pinned (OpenSpec.ofChange faultCoversWrong)

/-- 'cuirasslaw11.FaultAgain': WHATEVER THE INPUT: true; the input reads as it did. -/
def faultAgainSpec : ChangeSpec := { name := "faultAgain", fn := fun _ => fun
  | [d1, d2, d3, d4, d5] => { results := [.lit (.bool true)], args := [d1, d2, d3, d4, d5] }
  | _ => none }
def faultAgainRow : OpenClaim := { program := "ytckhkagkpldoiaa", sum := "e9b42b6ab1210a81ecabb4b3553ded2dde0eddd0a4c74e982a19a37fc0c6fd3c", func := "cuirass/cuirasslaw11.FaultAgain", spec := "faultAgain", unfollowed := true, recurses := true, apart := false }
def FaultAgainSaid : Prop := faultAgainRow.holds Try.pinned (OpenSpec.ofChange faultAgainSpec)

/-- ITS FALSE NEIGHBOUR: 'it returns false'. Refute it at one input. -/
def faultAgainWrong : ChangeSpec := { name := "faultAgain", fn := fun _ => fun
  | [d1, d2, d3, d4, d5] => { results := [.lit (.bool false)], args := [d1, d2, d3, d4, d5] }
  | _ => none }
def FaultAgainWrongFalsely : Prop := faultAgainRow.holds Try.pinned (OpenSpec.ofChange faultAgainWrong)

/-- 'cuirasslaw12.DramKeeps': WHATEVER THE INPUT: true; the input reads as it did. -/
def dramKeepsSpec : ChangeSpec := { name := "dramKeeps", fn := fun _ => fun
  | [d1, d2, d3, d4, d5] => { results := [.lit (.bool true)], args := [d1, d2, d3, d4, d5] }
  | _ => none }
def dramKeepsRow : OpenClaim := { program := "ytckhkagkpldoiaa", sum := "e9b42b6ab1210a81ecabb4b3553ded2dde0eddd0a4c74e982a19a37fc0c6fd3c", func := "cuirass/cuirasslaw12.DramKeeps", spec := "dramKeeps", unfollowed := true, recurses := true, apart := false }
def DramKeepsSaid : Prop := dramKeepsRow.holds Try.pinned (OpenSpec.ofChange dramKeepsSpec)

/-- ITS FALSE NEIGHBOUR: 'it returns false'. Refute it at one input. -/
def dramKeepsWrong : ChangeSpec := { name := "dramKeeps", fn := fun _ => fun
  | [d1, d2, d3, d4, d5] => { results := [.lit (.bool false)], args := [d1, d2, d3, d4, d5] }
  | _ => none }
def DramKeepsWrongFalsely : Prop := dramKeepsRow.holds Try.pinned (OpenSpec.ofChange dramKeepsWrong)

/-- 'cuirasslaw12.DramFlips': WHATEVER THE INPUT: true; the input reads as it did. -/
def dramFlipsSpec : ChangeSpec := { name := "dramFlips", fn := fun _ => fun
  | [d1, d2, d3, d4, d5, d6] => { results := [.lit (.bool true)], args := [d1, d2, d3, d4, d5, d6] }
  | _ => none }
def dramFlipsRow : OpenClaim := { program := "ytckhkagkpldoiaa", sum := "e9b42b6ab1210a81ecabb4b3553ded2dde0eddd0a4c74e982a19a37fc0c6fd3c", func := "cuirass/cuirasslaw12.DramFlips", spec := "dramFlips", unfollowed := true, recurses := true, apart := false }
def DramFlipsSaid : Prop := dramFlipsRow.holds Try.pinned (OpenSpec.ofChange dramFlipsSpec)

/-- ITS FALSE NEIGHBOUR: 'it returns false'. Refute it at one input. -/
def dramFlipsWrong : ChangeSpec := { name := "dramFlips", fn := fun _ => fun
  | [d1, d2, d3, d4, d5, d6] => { results := [.lit (.bool false)], args := [d1, d2, d3, d4, d5, d6] }
  | _ => none }
def DramFlipsWrongFalsely : Prop := dramFlipsRow.holds Try.pinned (OpenSpec.ofChange dramFlipsWrong)

/-- 'cuirasslaw12.DramStrays': WHATEVER THE INPUT: true; the input reads as it did. -/
def dramStraysSpec : ChangeSpec := { name := "dramStrays", fn := fun _ => fun
  | [d1, d2, d3, d4, d5] => { results := [.lit (.bool true)], args := [d1, d2, d3, d4, d5] }
  | _ => none }
def dramStraysRow : OpenClaim := { program := "ytckhkagkpldoiaa", sum := "e9b42b6ab1210a81ecabb4b3553ded2dde0eddd0a4c74e982a19a37fc0c6fd3c", func := "cuirass/cuirasslaw12.DramStrays", spec := "dramStrays", unfollowed := true, recurses := true, apart := false }
def DramStraysSaid : Prop := dramStraysRow.holds Try.pinned (OpenSpec.ofChange dramStraysSpec)

/-- ITS FALSE NEIGHBOUR: 'it returns false'. Refute it at one input. -/
def dramStraysWrong : ChangeSpec := { name := "dramStrays", fn := fun _ => fun
  | [d1, d2, d3, d4, d5] => { results := [.lit (.bool false)], args := [d1, d2, d3, d4, d5] }
  | _ => none }
def DramStraysWrongFalsely : Prop := dramStraysRow.holds Try.pinned (OpenSpec.ofChange dramStraysWrong)

/-- 'cuirasslaw12.DramPlays': WHATEVER THE INPUT: true; the input reads as it did. -/
def dramPlaysSpec : ChangeSpec := { name := "dramPlays", fn := fun _ => fun
  | [d1, d2, d3, d4] => { results := [.lit (.bool true)], args := [d1, d2, d3, d4] }
  | _ => none }
def dramPlaysRow : OpenClaim := { program := "ytckhkagkpldoiaa", sum := "e9b42b6ab1210a81ecabb4b3553ded2dde0eddd0a4c74e982a19a37fc0c6fd3c", func := "cuirass/cuirasslaw12.DramPlays", spec := "dramPlays", unfollowed := true, recurses := true, apart := false }
def DramPlaysSaid : Prop := dramPlaysRow.holds Try.pinned (OpenSpec.ofChange dramPlaysSpec)

/-- ITS FALSE NEIGHBOUR: 'it returns false'. Refute it at one input. -/
def dramPlaysWrong : ChangeSpec := { name := "dramPlays", fn := fun _ => fun
  | [d1, d2, d3, d4] => { results := [.lit (.bool false)], args := [d1, d2, d3, d4] }
  | _ => none }
def DramPlaysWrongFalsely : Prop := dramPlaysRow.holds Try.pinned (OpenSpec.ofChange dramPlaysWrong)

/-- 'cuirasslaw12.DramLater': WHATEVER THE INPUT: true; the input reads as it did. -/
def dramLaterSpec : ChangeSpec := { name := "dramLater", fn := fun _ => fun
  | [d1, d2, d3, d4, d5, d6] => { results := [.lit (.bool true)], args := [d1, d2, d3, d4, d5, d6] }
  | _ => none }
def dramLaterRow : OpenClaim := { program := "ytckhkagkpldoiaa", sum := "e9b42b6ab1210a81ecabb4b3553ded2dde0eddd0a4c74e982a19a37fc0c6fd3c", func := "cuirass/cuirasslaw12.DramLater", spec := "dramLater", unfollowed := true, recurses := true, apart := false }
def DramLaterSaid : Prop := dramLaterRow.holds Try.pinned (OpenSpec.ofChange dramLaterSpec)

/-- ITS FALSE NEIGHBOUR: 'it returns false'. Refute it at one input. -/
def dramLaterWrong : ChangeSpec := { name := "dramLater", fn := fun _ => fun
  | [d1, d2, d3, d4, d5, d6] => { results := [.lit (.bool false)], args := [d1, d2, d3, d4, d5, d6] }
  | _ => none }
def DramLaterWrongFalsely : Prop := dramLaterRow.holds Try.pinned (OpenSpec.ofChange dramLaterWrong)

/-- 'cuirasslaw13.DeviceBits': WHATEVER THE INPUT: true; the input reads as it did. -/
def deviceBitsSpec : ChangeSpec := { name := "deviceBits", fn := fun _ => fun
  | [d1, d2, d3, d4, d5] => { results := [.lit (.bool true)], args := [d1, d2, d3, d4, d5] }
  | _ => none }
def deviceBitsRow : OpenClaim := { program := "ytckhkagkpldoiaa", sum := "e9b42b6ab1210a81ecabb4b3553ded2dde0eddd0a4c74e982a19a37fc0c6fd3c", func := "cuirass/cuirasslaw13.DeviceBits", spec := "deviceBits", unfollowed := true, recurses := true, apart := false }
def DeviceBitsSaid : Prop := deviceBitsRow.holds Try.pinned (OpenSpec.ofChange deviceBitsSpec)

/-- ITS FALSE NEIGHBOUR: 'it returns false'. Refute it at one input. -/
def deviceBitsWrong : ChangeSpec := { name := "deviceBits", fn := fun _ => fun
  | [d1, d2, d3, d4, d5] => { results := [.lit (.bool false)], args := [d1, d2, d3, d4, d5] }
  | _ => none }
def DeviceBitsWrongFalsely : Prop := deviceBitsRow.holds Try.pinned (OpenSpec.ofChange deviceBitsWrong)

/-- 'cuirasslaw13.DeviceQuiet': WHATEVER THE INPUT: true; the input reads as it did. -/
def deviceQuietSpec : ChangeSpec := { name := "deviceQuiet", fn := fun _ => fun
  | [d1, d2, d3] => { results := [.lit (.bool true)], args := [d1, d2, d3] }
  | _ => none }
def deviceQuietRow : OpenClaim := { program := "ytckhkagkpldoiaa", sum := "e9b42b6ab1210a81ecabb4b3553ded2dde0eddd0a4c74e982a19a37fc0c6fd3c", func := "cuirass/cuirasslaw13.DeviceQuiet", spec := "deviceQuiet", unfollowed := true, recurses := true, apart := false }
def DeviceQuietSaid : Prop := deviceQuietRow.holds Try.pinned (OpenSpec.ofChange deviceQuietSpec)

/-- ITS FALSE NEIGHBOUR: 'it returns false'. Refute it at one input. -/
def deviceQuietWrong : ChangeSpec := { name := "deviceQuiet", fn := fun _ => fun
  | [d1, d2, d3] => { results := [.lit (.bool false)], args := [d1, d2, d3] }
  | _ => none }
def DeviceQuietWrongFalsely : Prop := deviceQuietRow.holds Try.pinned (OpenSpec.ofChange deviceQuietWrong)

/- THE SECOND FORM. 'bulk': how many values and letters a reading holds, each counted each time it is reached (what is shared counts as often as it is met; a slice's spare places count too). A statement '..UptoSaid' is the law's where the arguments, and the package variables that the reading takes, are together of bulk at most 1048576: NARROWER than '..Said'. Prove '..Said' where nothing that the law and all that it calls make is longer than what came in: it says more and counts as full. Else prove '..UptoSaid'. A law counts once. -/
mutual
def uptoBulk {H : Type} : DataW H → Nat
  | .lit (.string bytes) => bytes.length + 1
  | .lit _ => 1
  | .nil => 1
  | .ptr d => uptoBulk d + 1
  | .slice elems spare => uptoBulkAll elems + uptoBulkAll spare + 1
  | .agg parts => uptoBulkAll parts + 1
  | .iface _ d => uptoBulk d + 1
  | .map entries => uptoBulkEntries entries + 1
  | .held _ => 1
def uptoBulkAll {H : Type} : List (DataW H) → Nat
  | [] => 0
  | d :: r => uptoBulk d + uptoBulkAll r
def uptoBulkEntries {H : Type} : List (Lit × DataW H) → Nat
  | [] => 0
  | x :: r => uptoBulkEntry x + uptoBulkEntries r
def uptoBulkEntry {H : Type} : Lit × DataW H → Nat
  | (.string bytes, d) => bytes.length + uptoBulk d + 1
  | (_, d) => uptoBulk d + 1
 end
def uptoSmall : (H : Type) → List (DataW H) → Bool := fun _ ds => decide (uptoBulkAll ds ≤ 1048576)
def OpenSpec.upto (s : _root_.Go.ChangeSpec) : _root_.Go.OpenSpec := { _root_.Go.OpenSpec.ofChange s with cond := some uptoSmall }

/-- 'cuirasslaw11.FaultRight', WHERE WHAT IT READS IS OF BULK AT MOST 1048576: true; the input reads as it did. -/
def faultRightUptoRow : OpenClaim := { program := "ytckhkagkpldoiaa", sum := "e9b42b6ab1210a81ecabb4b3553ded2dde0eddd0a4c74e982a19a37fc0c6fd3c", func := "cuirass/cuirasslaw11.FaultRight", spec := "faultRight", unfollowed := true, recurses := true, apart := false, narrowed := true }
def FaultRightUptoSaid : Prop := faultRightUptoRow.holds Try.pinned (OpenSpec.upto faultRightSpec)

/-- 'cuirasslaw11.FaultApplies', WHERE WHAT IT READS IS OF BULK AT MOST 1048576: true; the input reads as it did. -/
def faultAppliesUptoRow : OpenClaim := { program := "ytckhkagkpldoiaa", sum := "e9b42b6ab1210a81ecabb4b3553ded2dde0eddd0a4c74e982a19a37fc0c6fd3c", func := "cuirass/cuirasslaw11.FaultApplies", spec := "faultApplies", unfollowed := true, recurses := true, apart := false, narrowed := true }
def FaultAppliesUptoSaid : Prop := faultAppliesUptoRow.holds Try.pinned (OpenSpec.upto faultAppliesSpec)

/-- 'cuirasslaw11.FaultLasting', WHERE WHAT IT READS IS OF BULK AT MOST 1048576: true; the input reads as it did. -/
def faultLastingUptoRow : OpenClaim := { program := "ytckhkagkpldoiaa", sum := "e9b42b6ab1210a81ecabb4b3553ded2dde0eddd0a4c74e982a19a37fc0c6fd3c", func := "cuirass/cuirasslaw11.FaultLasting", spec := "faultLasting", unfollowed := true, recurses := true, apart := false, narrowed := true }
def FaultLastingUptoSaid : Prop := faultLastingUptoRow.holds Try.pinned (OpenSpec.upto faultLastingSpec)

/-- 'cuirasslaw11.FaultCovers', WHERE WHAT IT READS IS OF BULK AT MOST 1048576: true; the input reads as it did. -/
def faultCoversUptoRow : OpenClaim := { program := "ytckhkagkpldoiaa", sum := "e9b42b6ab1210a81ecabb4b3553ded2dde0eddd0a4c74e982a19a37fc0c6fd3c", func := "cuirass/cuirasslaw11.FaultCovers", spec := "faultCovers", unfollowed := true, recurses := true, apart := false, narrowed := true }
def FaultCoversUptoSaid : Prop := faultCoversUptoRow.holds Try.pinned (OpenSpec.upto faultCoversSpec)

/-- 'cuirasslaw11.FaultAgain', WHERE WHAT IT READS IS OF BULK AT MOST 1048576: true; the input reads as it did. -/
def faultAgainUptoRow : OpenClaim := { program := "ytckhkagkpldoiaa", sum := "e9b42b6ab1210a81ecabb4b3553ded2dde0eddd0a4c74e982a19a37fc0c6fd3c", func := "cuirass/cuirasslaw11.FaultAgain", spec := "faultAgain", unfollowed := true, recurses := true, apart := false, narrowed := true }
def FaultAgainUptoSaid : Prop := faultAgainUptoRow.holds Try.pinned (OpenSpec.upto faultAgainSpec)

/-- 'cuirasslaw12.DramKeeps', WHERE WHAT IT READS IS OF BULK AT MOST 1048576: true; the input reads as it did. -/
def dramKeepsUptoRow : OpenClaim := { program := "ytckhkagkpldoiaa", sum := "e9b42b6ab1210a81ecabb4b3553ded2dde0eddd0a4c74e982a19a37fc0c6fd3c", func := "cuirass/cuirasslaw12.DramKeeps", spec := "dramKeeps", unfollowed := true, recurses := true, apart := false, narrowed := true }
def DramKeepsUptoSaid : Prop := dramKeepsUptoRow.holds Try.pinned (OpenSpec.upto dramKeepsSpec)

/-- 'cuirasslaw12.DramFlips', WHERE WHAT IT READS IS OF BULK AT MOST 1048576: true; the input reads as it did. -/
def dramFlipsUptoRow : OpenClaim := { program := "ytckhkagkpldoiaa", sum := "e9b42b6ab1210a81ecabb4b3553ded2dde0eddd0a4c74e982a19a37fc0c6fd3c", func := "cuirass/cuirasslaw12.DramFlips", spec := "dramFlips", unfollowed := true, recurses := true, apart := false, narrowed := true }
def DramFlipsUptoSaid : Prop := dramFlipsUptoRow.holds Try.pinned (OpenSpec.upto dramFlipsSpec)

/-- 'cuirasslaw12.DramStrays', WHERE WHAT IT READS IS OF BULK AT MOST 1048576: true; the input reads as it did. -/
def dramStraysUptoRow : OpenClaim := { program := "ytckhkagkpldoiaa", sum := "e9b42b6ab1210a81ecabb4b3553ded2dde0eddd0a4c74e982a19a37fc0c6fd3c", func := "cuirass/cuirasslaw12.DramStrays", spec := "dramStrays", unfollowed := true, recurses := true, apart := false, narrowed := true }
def DramStraysUptoSaid : Prop := dramStraysUptoRow.holds Try.pinned (OpenSpec.upto dramStraysSpec)

/-- 'cuirasslaw12.DramPlays', WHERE WHAT IT READS IS OF BULK AT MOST 1048576: true; the input reads as it did. -/
def dramPlaysUptoRow : OpenClaim := { program := "ytckhkagkpldoiaa", sum := "e9b42b6ab1210a81ecabb4b3553ded2dde0eddd0a4c74e982a19a37fc0c6fd3c", func := "cuirass/cuirasslaw12.DramPlays", spec := "dramPlays", unfollowed := true, recurses := true, apart := false, narrowed := true }
def DramPlaysUptoSaid : Prop := dramPlaysUptoRow.holds Try.pinned (OpenSpec.upto dramPlaysSpec)

/-- 'cuirasslaw12.DramLater', WHERE WHAT IT READS IS OF BULK AT MOST 1048576: true; the input reads as it did. -/
def dramLaterUptoRow : OpenClaim := { program := "ytckhkagkpldoiaa", sum := "e9b42b6ab1210a81ecabb4b3553ded2dde0eddd0a4c74e982a19a37fc0c6fd3c", func := "cuirass/cuirasslaw12.DramLater", spec := "dramLater", unfollowed := true, recurses := true, apart := false, narrowed := true }
def DramLaterUptoSaid : Prop := dramLaterUptoRow.holds Try.pinned (OpenSpec.upto dramLaterSpec)

/-- 'cuirasslaw13.DeviceBits', WHERE WHAT IT READS IS OF BULK AT MOST 1048576: true; the input reads as it did. -/
def deviceBitsUptoRow : OpenClaim := { program := "ytckhkagkpldoiaa", sum := "e9b42b6ab1210a81ecabb4b3553ded2dde0eddd0a4c74e982a19a37fc0c6fd3c", func := "cuirass/cuirasslaw13.DeviceBits", spec := "deviceBits", unfollowed := true, recurses := true, apart := false, narrowed := true }
def DeviceBitsUptoSaid : Prop := deviceBitsUptoRow.holds Try.pinned (OpenSpec.upto deviceBitsSpec)

/-- 'cuirasslaw13.DeviceQuiet', WHERE WHAT IT READS IS OF BULK AT MOST 1048576: true; the input reads as it did. -/
def deviceQuietUptoRow : OpenClaim := { program := "ytckhkagkpldoiaa", sum := "e9b42b6ab1210a81ecabb4b3553ded2dde0eddd0a4c74e982a19a37fc0c6fd3c", func := "cuirass/cuirasslaw13.DeviceQuiet", spec := "deviceQuiet", unfollowed := true, recurses := true, apart := false, narrowed := true }
def DeviceQuietUptoSaid : Prop := deviceQuietUptoRow.holds Try.pinned (OpenSpec.upto deviceQuietSpec)

end Rows
end Go.Proofs.Ytckhkagkpldoiaa
