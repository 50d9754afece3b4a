/-
  No cell of these rows narrows 'for every input' (looked for: loops, veiled, ifaces, maps, wideKeys, modest, calm, conditions, laid).
  DERIVED. THE GIVEN ROWS OF THIS SEAT. 5 by the template 'for every input the law returns true; each argument reads behind the call as it read before'; 0 by the template 'total and deterministic' (their statements: YthfncfcajjecbaaTotals.lean).
  GIVEN WITH THE SEED: the statements are not yours to turn. If you find one false, say at which input.
  Laid BY PROGRAM, IN A SANDBOX (cutbox-rows.mjs): the forced cells as the released guide's own fill.sh prints them over the translation ad3a24b0c817cef1… (all of the seat's roots in one cut). By AI agents, Wed Nov 11 2026. No macro, syntax, notation, axiom, sorry.
-/
import Derived.Test.YthfncfcajjecbaaChecked
import GoSem.Claim
import GoSem.ClaimJoined
import GoSem.ClaimMapViews
import Derived.JoinedTies
import Derived.KernelRfl
namespace Go.Proofs.Ythfncfcajjecbaa
/- THE CELL 'sum', in the pinned program and in every row, IS THE sha256 OF THE DUMP (.gsa) THAT YthfncfcajjecbaaProg.lean LOADS. Nothing in Lean hashes anything: it is a label: what it is worth is what the hold of that sum in a sandbox is worth. -/
noncomputable def Try.pinned : Pinned := { name := "ythfncfcajjecbaa", sum := "ad3a24b0c817cef1ffbbbc2b005caea719f9c7c8203aba64c92207a063e69b56", checked := Try.checked }
namespace Rows
def none {H : Type} : Left H := { results := [], args := [] }

/-- 'cuirasslaw09.RawWords': WHATEVER THE INPUT: true; the input reads as it did. -/
def rawWordsSpec : ChangeSpec := { name := "rawWords", fn := fun _ => fun
  | [d1, d2, d3, d4, d5] => { results := [.lit (.bool true)], args := [d1, d2, d3, d4, d5] }
  | _ => none }
def rawWordsRow : OpenClaim := { program := "ythfncfcajjecbaa", sum := "ad3a24b0c817cef1ffbbbc2b005caea719f9c7c8203aba64c92207a063e69b56", func := "cuirass/cuirasslaw09.RawWords", spec := "rawWords", unfollowed := true, recurses := true, apart := false }
def RawWordsSaid : Prop := rawWordsRow.holds Try.pinned (OpenSpec.ofChange rawWordsSpec)

/-- ITS FALSE NEIGHBOUR: 'it returns false'. Refute it at one input. -/
def rawWordsWrong : ChangeSpec := { name := "rawWords", fn := fun _ => fun
  | [d1, d2, d3, d4, d5] => { results := [.lit (.bool false)], args := [d1, d2, d3, d4, d5] }
  | _ => none }
def RawWordsWrongFalsely : Prop := rawWordsRow.holds Try.pinned (OpenSpec.ofChange rawWordsWrong)

/-- 'cuirasslaw09.RawWhole': WHATEVER THE INPUT: true; the input reads as it did. -/
def rawWholeSpec : ChangeSpec := { name := "rawWhole", fn := fun _ => fun
  | [d1, d2] => { results := [.lit (.bool true)], args := [d1, d2] }
  | _ => none }
def rawWholeRow : OpenClaim := { program := "ythfncfcajjecbaa", sum := "ad3a24b0c817cef1ffbbbc2b005caea719f9c7c8203aba64c92207a063e69b56", func := "cuirass/cuirasslaw09.RawWhole", spec := "rawWhole", unfollowed := true, recurses := true, apart := false }
def RawWholeSaid : Prop := rawWholeRow.holds Try.pinned (OpenSpec.ofChange rawWholeSpec)

/-- ITS FALSE NEIGHBOUR: 'it returns false'. Refute it at one input. -/
def rawWholeWrong : ChangeSpec := { name := "rawWhole", fn := fun _ => fun
  | [d1, d2] => { results := [.lit (.bool false)], args := [d1, d2] }
  | _ => none }
def RawWholeWrongFalsely : Prop := rawWholeRow.holds Try.pinned (OpenSpec.ofChange rawWholeWrong)

/-- 'cuirasslaw09.RawExposes': WHATEVER THE INPUT: true; the input reads as it did. -/
def rawExposesSpec : ChangeSpec := { name := "rawExposes", fn := fun _ => fun
  | [d1, d2, d3, d4] => { results := [.lit (.bool true)], args := [d1, d2, d3, d4] }
  | _ => none }
def rawExposesRow : OpenClaim := { program := "ythfncfcajjecbaa", sum := "ad3a24b0c817cef1ffbbbc2b005caea719f9c7c8203aba64c92207a063e69b56", func := "cuirass/cuirasslaw09.RawExposes", spec := "rawExposes", unfollowed := true, recurses := true, apart := false }
def RawExposesSaid : Prop := rawExposesRow.holds Try.pinned (OpenSpec.ofChange rawExposesSpec)

/-- ITS FALSE NEIGHBOUR: 'it returns false'. Refute it at one input. -/
def rawExposesWrong : ChangeSpec := { name := "rawExposes", fn := fun _ => fun
  | [d1, d2, d3, d4] => { results := [.lit (.bool false)], args := [d1, d2, d3, d4] }
  | _ => none }
def RawExposesWrongFalsely : Prop := rawExposesRow.holds Try.pinned (OpenSpec.ofChange rawExposesWrong)

/-- 'cuirasslaw09.RawChips': WHATEVER THE INPUT: true; the input reads as it did. -/
def rawChipsSpec : ChangeSpec := { name := "rawChips", fn := fun _ => fun
  | [d1, d2, d3, d4] => { results := [.lit (.bool true)], args := [d1, d2, d3, d4] }
  | _ => none }
def rawChipsRow : OpenClaim := { program := "ythfncfcajjecbaa", sum := "ad3a24b0c817cef1ffbbbc2b005caea719f9c7c8203aba64c92207a063e69b56", func := "cuirass/cuirasslaw09.RawChips", spec := "rawChips", unfollowed := true, recurses := true, apart := false }
def RawChipsSaid : Prop := rawChipsRow.holds Try.pinned (OpenSpec.ofChange rawChipsSpec)

/-- ITS FALSE NEIGHBOUR: 'it returns false'. Refute it at one input. -/
def rawChipsWrong : ChangeSpec := { name := "rawChips", fn := fun _ => fun
  | [d1, d2, d3, d4] => { results := [.lit (.bool false)], args := [d1, d2, d3, d4] }
  | _ => none }
def RawChipsWrongFalsely : Prop := rawChipsRow.holds Try.pinned (OpenSpec.ofChange rawChipsWrong)

/-- 'cuirasslaw09.RawTurns': WHATEVER THE INPUT: true; the input reads as it did. -/
def rawTurnsSpec : ChangeSpec := { name := "rawTurns", fn := fun _ => fun
  | [d1, d2, d3, d4, d5, d6] => { results := [.lit (.bool true)], args := [d1, d2, d3, d4, d5, d6] }
  | _ => none }
def rawTurnsRow : OpenClaim := { program := "ythfncfcajjecbaa", sum := "ad3a24b0c817cef1ffbbbc2b005caea719f9c7c8203aba64c92207a063e69b56", func := "cuirass/cuirasslaw09.RawTurns", spec := "rawTurns", unfollowed := true, recurses := true, apart := false }
def RawTurnsSaid : Prop := rawTurnsRow.holds Try.pinned (OpenSpec.ofChange rawTurnsSpec)

/-- ITS FALSE NEIGHBOUR: 'it returns false'. Refute it at one input. -/
def rawTurnsWrong : ChangeSpec := { name := "rawTurns", fn := fun _ => fun
  | [d1, d2, d3, d4, d5, d6] => { results := [.lit (.bool false)], args := [d1, d2, d3, d4, d5, d6] }
  | _ => none }
def RawTurnsWrongFalsely : Prop := rawTurnsRow.holds Try.pinned (OpenSpec.ofChange rawTurnsWrong)

/- THE SECOND FORM. 'bulk': how many values and letters a reading holds, each counted each time it is reached (what is shared counts as often as it is met; a slice's spare places count too). A statement '..UptoSaid' is the law's where the arguments, and the package variables that the reading takes, are together of bulk at most 1048576: NARROWER than '..Said'. Prove '..Said' where nothing that the law and all that it calls make is longer than what came in: it says more and counts as full. Else prove '..UptoSaid'. A law counts once. -/
mutual
def uptoBulk {H : Type} : DataW H → Nat
  | .lit (.string bytes) => bytes.length + 1
  | .lit _ => 1
  | .nil => 1
  | .ptr d => uptoBulk d + 1
  | .slice elems spare => uptoBulkAll elems + uptoBulkAll spare + 1
  | .agg parts => uptoBulkAll parts + 1
  | .iface _ d => uptoBulk d + 1
  | .map entries => uptoBulkEntries entries + 1
  | .held _ => 1
def uptoBulkAll {H : Type} : List (DataW H) → Nat
  | [] => 0
  | d :: r => uptoBulk d + uptoBulkAll r
def uptoBulkEntries {H : Type} : List (Lit × DataW H) → Nat
  | [] => 0
  | x :: r => uptoBulkEntry x + uptoBulkEntries r
def uptoBulkEntry {H : Type} : Lit × DataW H → Nat
  | (.string bytes, d) => bytes.length + uptoBulk d + 1
  | (_, d) => uptoBulk d + 1
 end
def uptoSmall : (H : Type) → List (DataW H) → Bool := fun _ ds => decide (uptoBulkAll ds ≤ 1048576)
def OpenSpec.upto (s : _root_.Go.ChangeSpec) : _root_.Go.OpenSpec := { _root_.Go.OpenSpec.ofChange s with cond := some uptoSmall }

/-- 'cuirasslaw09.RawWords', WHERE WHAT IT READS IS OF BULK AT MOST 1048576: true; the input reads as it did. -/
def rawWordsUptoRow : OpenClaim := { program := "ythfncfcajjecbaa", sum := "ad3a24b0c817cef1ffbbbc2b005caea719f9c7c8203aba64c92207a063e69b56", func := "cuirass/cuirasslaw09.RawWords", spec := "rawWords", unfollowed := true, recurses := true, apart := false, narrowed := true }
def RawWordsUptoSaid : Prop := rawWordsUptoRow.holds Try.pinned (OpenSpec.upto rawWordsSpec)

/-- 'cuirasslaw09.RawWhole', WHERE WHAT IT READS IS OF BULK AT MOST 1048576: true; the input reads as it did. -/
def rawWholeUptoRow : OpenClaim := { program := "ythfncfcajjecbaa", sum := "ad3a24b0c817cef1ffbbbc2b005caea719f9c7c8203aba64c92207a063e69b56", func := "cuirass/cuirasslaw09.RawWhole", spec := "rawWhole", unfollowed := true, recurses := true, apart := false, narrowed := true }
def RawWholeUptoSaid : Prop := rawWholeUptoRow.holds Try.pinned (OpenSpec.upto rawWholeSpec)

/-- 'cuirasslaw09.RawExposes', WHERE WHAT IT READS IS OF BULK AT MOST 1048576: true; the input reads as it did. -/
def rawExposesUptoRow : OpenClaim := { program := "ythfncfcajjecbaa", sum := "ad3a24b0c817cef1ffbbbc2b005caea719f9c7c8203aba64c92207a063e69b56", func := "cuirass/cuirasslaw09.RawExposes", spec := "rawExposes", unfollowed := true, recurses := true, apart := false, narrowed := true }
def RawExposesUptoSaid : Prop := rawExposesUptoRow.holds Try.pinned (OpenSpec.upto rawExposesSpec)

/-- 'cuirasslaw09.RawChips', WHERE WHAT IT READS IS OF BULK AT MOST 1048576: true; the input reads as it did. -/
def rawChipsUptoRow : OpenClaim := { program := "ythfncfcajjecbaa", sum := "ad3a24b0c817cef1ffbbbc2b005caea719f9c7c8203aba64c92207a063e69b56", func := "cuirass/cuirasslaw09.RawChips", spec := "rawChips", unfollowed := true, recurses := true, apart := false, narrowed := true }
def RawChipsUptoSaid : Prop := rawChipsUptoRow.holds Try.pinned (OpenSpec.upto rawChipsSpec)

/-- 'cuirasslaw09.RawTurns', WHERE WHAT IT READS IS OF BULK AT MOST 1048576: true; the input reads as it did. -/
def rawTurnsUptoRow : OpenClaim := { program := "ythfncfcajjecbaa", sum := "ad3a24b0c817cef1ffbbbc2b005caea719f9c7c8203aba64c92207a063e69b56", func := "cuirass/cuirasslaw09.RawTurns", spec := "rawTurns", unfollowed := true, recurses := true, apart := false, narrowed := true }
def RawTurnsUptoSaid : Prop := rawTurnsUptoRow.holds Try.pinned (OpenSpec.upto rawTurnsSpec)

end Rows
end Go.Proofs.Ythfncfcajjecbaa
