/-
  No cell of these rows narrows 'for every input' (looked for: loops, veiled, ifaces, maps, wideKeys, modest, calm, conditions, laid).
  DERIVED. THE GIVEN ROWS OF THIS SEAT. 6 by the template 'for every input the law returns true; each argument reads behind the call as it read before'; 0 by the template 'total and deterministic' (their statements: YtbpfojdlmkbngaaTotals.lean).
  GIVEN WITH THE SEED: the statements are not yours to turn. If you find one false, say at which input.
  Laid BY PROGRAM, IN A SANDBOX (cutbox-rows.mjs): the forced cells as the released guide's own fill.sh prints them over the translation ba49f3b96eefbe18… (all of the seat's roots in one cut). By AI agents, Wed Nov 11 2026. No macro, syntax, notation, axiom, sorry.
-/
import Derived.Test.YtbpfojdlmkbngaaChecked
import GoSem.Claim
import GoSem.ClaimJoined
import GoSem.ClaimMapViews
import Derived.JoinedTies
import Derived.KernelRfl
namespace Go.Proofs.Ytbpfojdlmkbngaa
/- THE CELL 'sum', in the pinned program and in every row, IS THE sha256 OF THE DUMP (.gsa) THAT YtbpfojdlmkbngaaProg.lean LOADS. Nothing in Lean hashes anything: it is a label: what it is worth is what the hold of that sum in a sandbox is worth. -/
noncomputable def Try.pinned : Pinned := { name := "ytbpfojdlmkbngaa", sum := "ba49f3b96eefbe18e3e5ad5c1d926e25fb68cbe5bf6f0da8d8a4b385ce407111", checked := Try.checked }
namespace Rows
def none {H : Type} : Left H := { results := [], args := [] }

/-- 'cuirasslaw03.BitChooses': WHATEVER THE INPUT: true; the input reads as it did. -/
def bitChoosesSpec : ChangeSpec := { name := "bitChooses", fn := fun _ => fun
  | [d1, d2, d3] => { results := [.lit (.bool true)], args := [d1, d2, d3] }
  | _ => none }
def bitChoosesRow : OpenClaim := { program := "ytbpfojdlmkbngaa", sum := "ba49f3b96eefbe18e3e5ad5c1d926e25fb68cbe5bf6f0da8d8a4b385ce407111", func := "cuirass/cuirasslaw03.BitChooses", spec := "bitChooses", unfollowed := true, recurses := true, apart := false }
def BitChoosesSaid : Prop := bitChoosesRow.holds Try.pinned (OpenSpec.ofChange bitChoosesSpec)

/-- ITS FALSE NEIGHBOUR: 'it returns false'. Refute it at one input. -/
def bitChoosesWrong : ChangeSpec := { name := "bitChooses", fn := fun _ => fun
  | [d1, d2, d3] => { results := [.lit (.bool false)], args := [d1, d2, d3] }
  | _ => none }
def BitChoosesWrongFalsely : Prop := bitChoosesRow.holds Try.pinned (OpenSpec.ofChange bitChoosesWrong)

/-- 'cuirasslaw03.BitSums': WHATEVER THE INPUT: true; the input reads as it did. -/
def bitSumsSpec : ChangeSpec := { name := "bitSums", fn := fun _ => fun
  | [d1, d2] => { results := [.lit (.bool true)], args := [d1, d2] }
  | _ => none }
def bitSumsRow : OpenClaim := { program := "ytbpfojdlmkbngaa", sum := "ba49f3b96eefbe18e3e5ad5c1d926e25fb68cbe5bf6f0da8d8a4b385ce407111", func := "cuirass/cuirasslaw03.BitSums", spec := "bitSums", unfollowed := true, recurses := true, apart := false }
def BitSumsSaid : Prop := bitSumsRow.holds Try.pinned (OpenSpec.ofChange bitSumsSpec)

/-- ITS FALSE NEIGHBOUR: 'it returns false'. Refute it at one input. -/
def bitSumsWrong : ChangeSpec := { name := "bitSums", fn := fun _ => fun
  | [d1, d2] => { results := [.lit (.bool false)], args := [d1, d2] }
  | _ => none }
def BitSumsWrongFalsely : Prop := bitSumsRow.holds Try.pinned (OpenSpec.ofChange bitSumsWrong)

/-- 'cuirasslaw03.BitWeights': WHATEVER THE INPUT: true; the input reads as it did. -/
def bitWeightsSpec : ChangeSpec := { name := "bitWeights", fn := fun _ => fun
  | [d] => { results := [.lit (.bool true)], args := [d] }
  | _ => none }
def bitWeightsRow : OpenClaim := { program := "ytbpfojdlmkbngaa", sum := "ba49f3b96eefbe18e3e5ad5c1d926e25fb68cbe5bf6f0da8d8a4b385ce407111", func := "cuirass/cuirasslaw03.BitWeights", spec := "bitWeights", unfollowed := true, recurses := true, apart := false }
def BitWeightsSaid : Prop := bitWeightsRow.holds Try.pinned (OpenSpec.ofChange bitWeightsSpec)

/-- ITS FALSE NEIGHBOUR: 'it returns false'. Refute it at one input. -/
def bitWeightsWrong : ChangeSpec := { name := "bitWeights", fn := fun _ => fun
  | [d] => { results := [.lit (.bool false)], args := [d] }
  | _ => none }
def BitWeightsWrongFalsely : Prop := bitWeightsRow.holds Try.pinned (OpenSpec.ofChange bitWeightsWrong)

/-- 'cuirasslaw01.GfField': WHATEVER THE INPUT: true; the input reads as it did. -/
def gfFieldSpec : ChangeSpec := { name := "gfField", fn := fun _ => fun
  | [d1, d2, d3] => { results := [.lit (.bool true)], args := [d1, d2, d3] }
  | _ => none }
def gfFieldRow : OpenClaim := { program := "ytbpfojdlmkbngaa", sum := "ba49f3b96eefbe18e3e5ad5c1d926e25fb68cbe5bf6f0da8d8a4b385ce407111", func := "cuirass/cuirasslaw01.GfField", spec := "gfField", apart := false }
def GfFieldSaid : Prop := gfFieldRow.holds Try.pinned (OpenSpec.ofChange gfFieldSpec)

/-- ITS FALSE NEIGHBOUR: 'it returns false'. Refute it at one input. -/
def gfFieldWrong : ChangeSpec := { name := "gfField", fn := fun _ => fun
  | [d1, d2, d3] => { results := [.lit (.bool false)], args := [d1, d2, d3] }
  | _ => none }
def GfFieldWrongFalsely : Prop := gfFieldRow.holds Try.pinned (OpenSpec.ofChange gfFieldWrong)

/-- 'cuirasslaw01.GfLinear': WHATEVER THE INPUT: true; the input reads as it did. -/
def gfLinearSpec : ChangeSpec := { name := "gfLinear", fn := fun _ => fun
  | [d1, d2, d3, d4] => { results := [.lit (.bool true)], args := [d1, d2, d3, d4] }
  | _ => none }
def gfLinearRow : OpenClaim := { program := "ytbpfojdlmkbngaa", sum := "ba49f3b96eefbe18e3e5ad5c1d926e25fb68cbe5bf6f0da8d8a4b385ce407111", func := "cuirass/cuirasslaw01.GfLinear", spec := "gfLinear", apart := false }
def GfLinearSaid : Prop := gfLinearRow.holds Try.pinned (OpenSpec.ofChange gfLinearSpec)

/-- ITS FALSE NEIGHBOUR: 'it returns false'. Refute it at one input. -/
def gfLinearWrong : ChangeSpec := { name := "gfLinear", fn := fun _ => fun
  | [d1, d2, d3, d4] => { results := [.lit (.bool false)], args := [d1, d2, d3, d4] }
  | _ => none }
def GfLinearWrongFalsely : Prop := gfLinearRow.holds Try.pinned (OpenSpec.ofChange gfLinearWrong)

/-- 'cuirasslaw01.GfPowers': WHATEVER THE INPUT: true; the input reads as it did. -/
def gfPowersSpec : ChangeSpec := { name := "gfPowers", fn := fun _ => fun
  | [d1, d2, d3] => { results := [.lit (.bool true)], args := [d1, d2, d3] }
  | _ => none }
def gfPowersRow : OpenClaim := { program := "ytbpfojdlmkbngaa", sum := "ba49f3b96eefbe18e3e5ad5c1d926e25fb68cbe5bf6f0da8d8a4b385ce407111", func := "cuirass/cuirasslaw01.GfPowers", spec := "gfPowers", apart := false }
def GfPowersSaid : Prop := gfPowersRow.holds Try.pinned (OpenSpec.ofChange gfPowersSpec)

/-- ITS FALSE NEIGHBOUR: 'it returns false'. Refute it at one input. -/
def gfPowersWrong : ChangeSpec := { name := "gfPowers", fn := fun _ => fun
  | [d1, d2, d3] => { results := [.lit (.bool false)], args := [d1, d2, d3] }
  | _ => none }
def GfPowersWrongFalsely : Prop := gfPowersRow.holds Try.pinned (OpenSpec.ofChange gfPowersWrong)

/- THE SECOND FORM. 'bulk': how many values and letters a reading holds, each counted each time it is reached (what is shared counts as often as it is met; a slice's spare places count too). A statement '..UptoSaid' is the law's where the arguments, and the package variables that the reading takes, are together of bulk at most 1048576: NARROWER than '..Said'. Prove '..Said' where nothing that the law and all that it calls make is longer than what came in: it says more and counts as full. Else prove '..UptoSaid'. A law counts once. -/
mutual
def uptoBulk {H : Type} : DataW H → Nat
  | .lit (.string bytes) => bytes.length + 1
  | .lit _ => 1
  | .nil => 1
  | .ptr d => uptoBulk d + 1
  | .slice elems spare => uptoBulkAll elems + uptoBulkAll spare + 1
  | .agg parts => uptoBulkAll parts + 1
  | .iface _ d => uptoBulk d + 1
  | .map entries => uptoBulkEntries entries + 1
  | .held _ => 1
def uptoBulkAll {H : Type} : List (DataW H) → Nat
  | [] => 0
  | d :: r => uptoBulk d + uptoBulkAll r
def uptoBulkEntries {H : Type} : List (Lit × DataW H) → Nat
  | [] => 0
  | x :: r => uptoBulkEntry x + uptoBulkEntries r
def uptoBulkEntry {H : Type} : Lit × DataW H → Nat
  | (.string bytes, d) => bytes.length + uptoBulk d + 1
  | (_, d) => uptoBulk d + 1
 end
def uptoSmall : (H : Type) → List (DataW H) → Bool := fun _ ds => decide (uptoBulkAll ds ≤ 1048576)
def OpenSpec.upto (s : _root_.Go.ChangeSpec) : _root_.Go.OpenSpec := { _root_.Go.OpenSpec.ofChange s with cond := some uptoSmall }

/-- 'cuirasslaw03.BitChooses', WHERE WHAT IT READS IS OF BULK AT MOST 1048576: true; the input reads as it did. -/
def bitChoosesUptoRow : OpenClaim := { program := "ytbpfojdlmkbngaa", sum := "ba49f3b96eefbe18e3e5ad5c1d926e25fb68cbe5bf6f0da8d8a4b385ce407111", func := "cuirass/cuirasslaw03.BitChooses", spec := "bitChooses", unfollowed := true, recurses := true, apart := false, narrowed := true }
def BitChoosesUptoSaid : Prop := bitChoosesUptoRow.holds Try.pinned (OpenSpec.upto bitChoosesSpec)

/-- 'cuirasslaw03.BitSums', WHERE WHAT IT READS IS OF BULK AT MOST 1048576: true; the input reads as it did. -/
def bitSumsUptoRow : OpenClaim := { program := "ytbpfojdlmkbngaa", sum := "ba49f3b96eefbe18e3e5ad5c1d926e25fb68cbe5bf6f0da8d8a4b385ce407111", func := "cuirass/cuirasslaw03.BitSums", spec := "bitSums", unfollowed := true, recurses := true, apart := false, narrowed := true }
def BitSumsUptoSaid : Prop := bitSumsUptoRow.holds Try.pinned (OpenSpec.upto bitSumsSpec)

/-- 'cuirasslaw03.BitWeights', WHERE WHAT IT READS IS OF BULK AT MOST 1048576: true; the input reads as it did. -/
def bitWeightsUptoRow : OpenClaim := { program := "ytbpfojdlmkbngaa", sum := "ba49f3b96eefbe18e3e5ad5c1d926e25fb68cbe5bf6f0da8d8a4b385ce407111", func := "cuirass/cuirasslaw03.BitWeights", spec := "bitWeights", unfollowed := true, recurses := true, apart := false, narrowed := true }
def BitWeightsUptoSaid : Prop := bitWeightsUptoRow.holds Try.pinned (OpenSpec.upto bitWeightsSpec)

/-- 'cuirasslaw01.GfField', WHERE WHAT IT READS IS OF BULK AT MOST 1048576: true; the input reads as it did. -/
def gfFieldUptoRow : OpenClaim := { program := "ytbpfojdlmkbngaa", sum := "ba49f3b96eefbe18e3e5ad5c1d926e25fb68cbe5bf6f0da8d8a4b385ce407111", func := "cuirass/cuirasslaw01.GfField", spec := "gfField", apart := false, narrowed := true }
def GfFieldUptoSaid : Prop := gfFieldUptoRow.holds Try.pinned (OpenSpec.upto gfFieldSpec)

/-- 'cuirasslaw01.GfLinear', WHERE WHAT IT READS IS OF BULK AT MOST 1048576: true; the input reads as it did. -/
def gfLinearUptoRow : OpenClaim := { program := "ytbpfojdlmkbngaa", sum := "ba49f3b96eefbe18e3e5ad5c1d926e25fb68cbe5bf6f0da8d8a4b385ce407111", func := "cuirass/cuirasslaw01.GfLinear", spec := "gfLinear", apart := false, narrowed := true }
def GfLinearUptoSaid : Prop := gfLinearUptoRow.holds Try.pinned (OpenSpec.upto gfLinearSpec)

/-- 'cuirasslaw01.GfPowers', WHERE WHAT IT READS IS OF BULK AT MOST 1048576: true; the input reads as it did. -/
def gfPowersUptoRow : OpenClaim := { program := "ytbpfojdlmkbngaa", sum := "ba49f3b96eefbe18e3e5ad5c1d926e25fb68cbe5bf6f0da8d8a4b385ce407111", func := "cuirass/cuirasslaw01.GfPowers", spec := "gfPowers", apart := false, narrowed := true }
def GfPowersUptoSaid : Prop := gfPowersUptoRow.holds Try.pinned (OpenSpec.upto gfPowersSpec)

end Rows
end Go.Proofs.Ytbpfojdlmkbngaa
