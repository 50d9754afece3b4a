/-
  No cell of these rows narrows 'for every input' (looked for: loops, veiled, ifaces, maps, wideKeys, modest, calm, conditions, laid).
  DERIVED. THE GIVEN ROWS OF THIS SEAT. 7 by the template 'for every input the law returns true; each argument reads behind the call as it read before'; 0 by the template 'total and deterministic' (their statements: YtdgflbbffimpkaaTotals.lean).
  GIVEN WITH THE SEED: the statements are not yours to turn. If you find one false, say at which input.
  Laid BY PROGRAM, IN A SANDBOX (cutbox-rows.mjs): the forced cells as the released guide's own fill.sh prints them over the translation 0d246f8bc2c07dca… (all of the seat's roots in one cut). By AI agents, Wed Nov 11 2026. No macro, syntax, notation, axiom, sorry.
-/
import Derived.Test.YtdgflbbffimpkaaChecked
import GoSem.Claim
import GoSem.ClaimJoined
import GoSem.ClaimMapViews
import Derived.JoinedTies
import Derived.KernelRfl
namespace Go.Proofs.Ytdgflbbffimpkaa
/- THE CELL 'sum', in the pinned program and in every row, IS THE sha256 OF THE DUMP (.gsa) THAT YtdgflbbffimpkaaProg.lean LOADS. Nothing in Lean hashes anything: it is a label: what it is worth is what the hold of that sum in a sandbox is worth. -/
noncomputable def Try.pinned : Pinned := { name := "ytdgflbbffimpkaa", sum := "0d246f8bc2c07dca0e570d8468a3f6f27bb1d72e6379629bc36353559f2b0bd9", checked := Try.checked }
namespace Rows
def none {H : Type} : Left H := { results := [], args := [] }

/-- 'cuirasslaw05.RsLocates': WHATEVER THE INPUT: true; the input reads as it did. -/
def rsLocatesSpec : ChangeSpec := { name := "rsLocates", fn := fun _ => fun
  | [d1, d2, d3] => { results := [.lit (.bool true)], args := [d1, d2, d3] }
  | _ => none }
def rsLocatesRow : OpenClaim := { program := "ytdgflbbffimpkaa", sum := "0d246f8bc2c07dca0e570d8468a3f6f27bb1d72e6379629bc36353559f2b0bd9", func := "cuirass/cuirasslaw05.RsLocates", spec := "rsLocates", unfollowed := true, recurses := true, apart := false }
def RsLocatesSaid : Prop := rsLocatesRow.holds Try.pinned (OpenSpec.ofChange rsLocatesSpec)

/-- ITS FALSE NEIGHBOUR: 'it returns false'. Refute it at one input. -/
def rsLocatesWrong : ChangeSpec := { name := "rsLocates", fn := fun _ => fun
  | [d1, d2, d3] => { results := [.lit (.bool false)], args := [d1, d2, d3] }
  | _ => none }
def RsLocatesWrongFalsely : Prop := rsLocatesRow.holds Try.pinned (OpenSpec.ofChange rsLocatesWrong)

/-- 'cuirasslaw05.RsCorrects': WHATEVER THE INPUT: true; the input reads as it did. -/
def rsCorrectsSpec : ChangeSpec := { name := "rsCorrects", fn := fun _ => fun
  | [d1, d2, d3, d4] => { results := [.lit (.bool true)], args := [d1, d2, d3, d4] }
  | _ => none }
def rsCorrectsRow : OpenClaim := { program := "ytdgflbbffimpkaa", sum := "0d246f8bc2c07dca0e570d8468a3f6f27bb1d72e6379629bc36353559f2b0bd9", func := "cuirass/cuirasslaw05.RsCorrects", spec := "rsCorrects", unfollowed := true, recurses := true, apart := false }
def RsCorrectsSaid : Prop := rsCorrectsRow.holds Try.pinned (OpenSpec.ofChange rsCorrectsSpec)

/-- ITS FALSE NEIGHBOUR: 'it returns false'. Refute it at one input. -/
def rsCorrectsWrong : ChangeSpec := { name := "rsCorrects", fn := fun _ => fun
  | [d1, d2, d3, d4] => { results := [.lit (.bool false)], args := [d1, d2, d3, d4] }
  | _ => none }
def RsCorrectsWrongFalsely : Prop := rsCorrectsRow.holds Try.pinned (OpenSpec.ofChange rsCorrectsWrong)

/-- 'cuirasslaw05.RsDetects': WHATEVER THE INPUT: true; the input reads as it did. -/
def rsDetectsSpec : ChangeSpec := { name := "rsDetects", fn := fun _ => fun
  | [d1, d2, d3, d4] => { results := [.lit (.bool true)], args := [d1, d2, d3, d4] }
  | _ => none }
def rsDetectsRow : OpenClaim := { program := "ytdgflbbffimpkaa", sum := "0d246f8bc2c07dca0e570d8468a3f6f27bb1d72e6379629bc36353559f2b0bd9", func := "cuirass/cuirasslaw05.RsDetects", spec := "rsDetects", unfollowed := true, recurses := true, apart := false }
def RsDetectsSaid : Prop := rsDetectsRow.holds Try.pinned (OpenSpec.ofChange rsDetectsSpec)

/-- ITS FALSE NEIGHBOUR: 'it returns false'. Refute it at one input. -/
def rsDetectsWrong : ChangeSpec := { name := "rsDetects", fn := fun _ => fun
  | [d1, d2, d3, d4] => { results := [.lit (.bool false)], args := [d1, d2, d3, d4] }
  | _ => none }
def RsDetectsWrongFalsely : Prop := rsDetectsRow.holds Try.pinned (OpenSpec.ofChange rsDetectsWrong)

/-- 'cuirasslaw05.RsLinear': WHATEVER THE INPUT: true; the input reads as it did. -/
def rsLinearSpec : ChangeSpec := { name := "rsLinear", fn := fun _ => fun
  | [d1, d2, d3, d4, d5] => { results := [.lit (.bool true)], args := [d1, d2, d3, d4, d5] }
  | _ => none }
def rsLinearRow : OpenClaim := { program := "ytdgflbbffimpkaa", sum := "0d246f8bc2c07dca0e570d8468a3f6f27bb1d72e6379629bc36353559f2b0bd9", func := "cuirass/cuirasslaw05.RsLinear", spec := "rsLinear", unfollowed := true, recurses := true, apart := false }
def RsLinearSaid : Prop := rsLinearRow.holds Try.pinned (OpenSpec.ofChange rsLinearSpec)

/-- ITS FALSE NEIGHBOUR: 'it returns false'. Refute it at one input. -/
def rsLinearWrong : ChangeSpec := { name := "rsLinear", fn := fun _ => fun
  | [d1, d2, d3, d4, d5] => { results := [.lit (.bool false)], args := [d1, d2, d3, d4, d5] }
  | _ => none }
def RsLinearWrongFalsely : Prop := rsLinearRow.holds Try.pinned (OpenSpec.ofChange rsLinearWrong)

/-- 'cuirasslaw05.RsApart': WHATEVER THE INPUT: true; the input reads as it did. -/
def rsApartSpec : ChangeSpec := { name := "rsApart", fn := fun _ => fun
  | [d1, d2, d3, d4] => { results := [.lit (.bool true)], args := [d1, d2, d3, d4] }
  | _ => none }
def rsApartRow : OpenClaim := { program := "ytdgflbbffimpkaa", sum := "0d246f8bc2c07dca0e570d8468a3f6f27bb1d72e6379629bc36353559f2b0bd9", func := "cuirass/cuirasslaw05.RsApart", spec := "rsApart", unfollowed := true, recurses := true, apart := false }
def RsApartSaid : Prop := rsApartRow.holds Try.pinned (OpenSpec.ofChange rsApartSpec)

/-- ITS FALSE NEIGHBOUR: 'it returns false'. Refute it at one input. -/
def rsApartWrong : ChangeSpec := { name := "rsApart", fn := fun _ => fun
  | [d1, d2, d3, d4] => { results := [.lit (.bool false)], args := [d1, d2, d3, d4] }
  | _ => none }
def RsApartWrongFalsely : Prop := rsApartRow.holds Try.pinned (OpenSpec.ofChange rsApartWrong)

/-- 'cuirasslaw05.RsSyndromes': WHATEVER THE INPUT: true; the input reads as it did. -/
def rsSyndromesSpec : ChangeSpec := { name := "rsSyndromes", fn := fun _ => fun
  | [d1, d2, d3, d4] => { results := [.lit (.bool true)], args := [d1, d2, d3, d4] }
  | _ => none }
def rsSyndromesRow : OpenClaim := { program := "ytdgflbbffimpkaa", sum := "0d246f8bc2c07dca0e570d8468a3f6f27bb1d72e6379629bc36353559f2b0bd9", func := "cuirass/cuirasslaw05.RsSyndromes", spec := "rsSyndromes", unfollowed := true, recurses := true, apart := false }
def RsSyndromesSaid : Prop := rsSyndromesRow.holds Try.pinned (OpenSpec.ofChange rsSyndromesSpec)

/-- ITS FALSE NEIGHBOUR: 'it returns false'. Refute it at one input. -/
def rsSyndromesWrong : ChangeSpec := { name := "rsSyndromes", fn := fun _ => fun
  | [d1, d2, d3, d4] => { results := [.lit (.bool false)], args := [d1, d2, d3, d4] }
  | _ => none }
def RsSyndromesWrongFalsely : Prop := rsSyndromesRow.holds Try.pinned (OpenSpec.ofChange rsSyndromesWrong)

/-- 'cuirasslaw05.RsChecks': WHATEVER THE INPUT: true; the input reads as it did. -/
def rsChecksSpec : ChangeSpec := { name := "rsChecks", fn := fun _ => fun
  | [d1, d2, d3] => { results := [.lit (.bool true)], args := [d1, d2, d3] }
  | _ => none }
def rsChecksRow : OpenClaim := { program := "ytdgflbbffimpkaa", sum := "0d246f8bc2c07dca0e570d8468a3f6f27bb1d72e6379629bc36353559f2b0bd9", func := "cuirass/cuirasslaw05.RsChecks", spec := "rsChecks", unfollowed := true, recurses := true, apart := false }
def RsChecksSaid : Prop := rsChecksRow.holds Try.pinned (OpenSpec.ofChange rsChecksSpec)

/-- ITS FALSE NEIGHBOUR: 'it returns false'. Refute it at one input. -/
def rsChecksWrong : ChangeSpec := { name := "rsChecks", fn := fun _ => fun
  | [d1, d2, d3] => { results := [.lit (.bool false)], args := [d1, d2, d3] }
  | _ => none }
def RsChecksWrongFalsely : Prop := rsChecksRow.holds Try.pinned (OpenSpec.ofChange rsChecksWrong)

/- THE SECOND FORM. 'bulk': how many values and letters a reading holds, each counted each time it is reached (what is shared counts as often as it is met; a slice's spare places count too). A statement '..UptoSaid' is the law's where the arguments, and the package variables that the reading takes, are together of bulk at most 1048576: NARROWER than '..Said'. Prove '..Said' where nothing that the law and all that it calls make is longer than what came in: it says more and counts as full. Else prove '..UptoSaid'. A law counts once. -/
mutual
def uptoBulk {H : Type} : DataW H → Nat
  | .lit (.string bytes) => bytes.length + 1
  | .lit _ => 1
  | .nil => 1
  | .ptr d => uptoBulk d + 1
  | .slice elems spare => uptoBulkAll elems + uptoBulkAll spare + 1
  | .agg parts => uptoBulkAll parts + 1
  | .iface _ d => uptoBulk d + 1
  | .map entries => uptoBulkEntries entries + 1
  | .held _ => 1
def uptoBulkAll {H : Type} : List (DataW H) → Nat
  | [] => 0
  | d :: r => uptoBulk d + uptoBulkAll r
def uptoBulkEntries {H : Type} : List (Lit × DataW H) → Nat
  | [] => 0
  | x :: r => uptoBulkEntry x + uptoBulkEntries r
def uptoBulkEntry {H : Type} : Lit × DataW H → Nat
  | (.string bytes, d) => bytes.length + uptoBulk d + 1
  | (_, d) => uptoBulk d + 1
 end
def uptoSmall : (H : Type) → List (DataW H) → Bool := fun _ ds => decide (uptoBulkAll ds ≤ 1048576)
def OpenSpec.upto (s : _root_.Go.ChangeSpec) : _root_.Go.OpenSpec := { _root_.Go.OpenSpec.ofChange s with cond := some uptoSmall }

/-- 'cuirasslaw05.RsLocates', WHERE WHAT IT READS IS OF BULK AT MOST 1048576: true; the input reads as it did. -/
def rsLocatesUptoRow : OpenClaim := { program := "ytdgflbbffimpkaa", sum := "0d246f8bc2c07dca0e570d8468a3f6f27bb1d72e6379629bc36353559f2b0bd9", func := "cuirass/cuirasslaw05.RsLocates", spec := "rsLocates", unfollowed := true, recurses := true, apart := false, narrowed := true }
def RsLocatesUptoSaid : Prop := rsLocatesUptoRow.holds Try.pinned (OpenSpec.upto rsLocatesSpec)

/-- 'cuirasslaw05.RsCorrects', WHERE WHAT IT READS IS OF BULK AT MOST 1048576: true; the input reads as it did. -/
def rsCorrectsUptoRow : OpenClaim := { program := "ytdgflbbffimpkaa", sum := "0d246f8bc2c07dca0e570d8468a3f6f27bb1d72e6379629bc36353559f2b0bd9", func := "cuirass/cuirasslaw05.RsCorrects", spec := "rsCorrects", unfollowed := true, recurses := true, apart := false, narrowed := true }
def RsCorrectsUptoSaid : Prop := rsCorrectsUptoRow.holds Try.pinned (OpenSpec.upto rsCorrectsSpec)

/-- 'cuirasslaw05.RsDetects', WHERE WHAT IT READS IS OF BULK AT MOST 1048576: true; the input reads as it did. -/
def rsDetectsUptoRow : OpenClaim := { program := "ytdgflbbffimpkaa", sum := "0d246f8bc2c07dca0e570d8468a3f6f27bb1d72e6379629bc36353559f2b0bd9", func := "cuirass/cuirasslaw05.RsDetects", spec := "rsDetects", unfollowed := true, recurses := true, apart := false, narrowed := true }
def RsDetectsUptoSaid : Prop := rsDetectsUptoRow.holds Try.pinned (OpenSpec.upto rsDetectsSpec)

/-- 'cuirasslaw05.RsLinear', WHERE WHAT IT READS IS OF BULK AT MOST 1048576: true; the input reads as it did. -/
def rsLinearUptoRow : OpenClaim := { program := "ytdgflbbffimpkaa", sum := "0d246f8bc2c07dca0e570d8468a3f6f27bb1d72e6379629bc36353559f2b0bd9", func := "cuirass/cuirasslaw05.RsLinear", spec := "rsLinear", unfollowed := true, recurses := true, apart := false, narrowed := true }
def RsLinearUptoSaid : Prop := rsLinearUptoRow.holds Try.pinned (OpenSpec.upto rsLinearSpec)

/-- 'cuirasslaw05.RsApart', WHERE WHAT IT READS IS OF BULK AT MOST 1048576: true; the input reads as it did. -/
def rsApartUptoRow : OpenClaim := { program := "ytdgflbbffimpkaa", sum := "0d246f8bc2c07dca0e570d8468a3f6f27bb1d72e6379629bc36353559f2b0bd9", func := "cuirass/cuirasslaw05.RsApart", spec := "rsApart", unfollowed := true, recurses := true, apart := false, narrowed := true }
def RsApartUptoSaid : Prop := rsApartUptoRow.holds Try.pinned (OpenSpec.upto rsApartSpec)

/-- 'cuirasslaw05.RsSyndromes', WHERE WHAT IT READS IS OF BULK AT MOST 1048576: true; the input reads as it did. -/
def rsSyndromesUptoRow : OpenClaim := { program := "ytdgflbbffimpkaa", sum := "0d246f8bc2c07dca0e570d8468a3f6f27bb1d72e6379629bc36353559f2b0bd9", func := "cuirass/cuirasslaw05.RsSyndromes", spec := "rsSyndromes", unfollowed := true, recurses := true, apart := false, narrowed := true }
def RsSyndromesUptoSaid : Prop := rsSyndromesUptoRow.holds Try.pinned (OpenSpec.upto rsSyndromesSpec)

/-- 'cuirasslaw05.RsChecks', WHERE WHAT IT READS IS OF BULK AT MOST 1048576: true; the input reads as it did. -/
def rsChecksUptoRow : OpenClaim := { program := "ytdgflbbffimpkaa", sum := "0d246f8bc2c07dca0e570d8468a3f6f27bb1d72e6379629bc36353559f2b0bd9", func := "cuirass/cuirasslaw05.RsChecks", spec := "rsChecks", unfollowed := true, recurses := true, apart := false, narrowed := true }
def RsChecksUptoSaid : Prop := rsChecksUptoRow.holds Try.pinned (OpenSpec.upto rsChecksSpec)

end Rows
end Go.Proofs.Ytdgflbbffimpkaa
