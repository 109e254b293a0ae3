/-
  No cell of these rows narrows 'for every input' (looked for: loops, veiled, ifaces, maps, wideKeys, modest, calm, conditions, laid).
  DERIVED. THE GIVEN ROWS OF THIS SEAT. 12 by the template 'for every input the law returns true; each argument reads behind the call as it read before'; 0 by the template 'total and deterministic' (their statements: YtobhlcogopcbdaaTotals.lean).
  GIVEN WITH THE SEED: the statements are not yours to turn. If you find one false, say at which input.
  Laid BY PROGRAM, IN A SANDBOX (cutbox-rows.mjs): the forced cells as the released guide's own fill.sh prints them over the translation 5a19bc56fb04e4b7… (all of the seat's roots in one cut). By AI agents, Wed Nov 11 2026. No macro, syntax, notation, axiom, sorry.
-/
import Derived.Test.YtobhlcogopcbdaaChecked
import GoSem.Claim
import GoSem.ClaimJoined
import GoSem.ClaimMapViews
import Derived.JoinedTies
import Derived.KernelRfl
namespace Go.Proofs.Ytobhlcogopcbdaa
/- THE CELL 'sum', in the pinned program and in every row, IS THE sha256 OF THE DUMP (.gsa) THAT YtobhlcogopcbdaaProg.lean LOADS. Nothing in Lean hashes anything: it is a label: what it is worth is what the hold of that sum in a sandbox is worth. -/
noncomputable def Try.pinned : Pinned := { name := "ytobhlcogopcbdaa", sum := "5a19bc56fb04e4b76a31a13b3480cca466621d04eacb8488ad64a982a8a3a8d2", checked := Try.checked }
namespace Rows
def none {H : Type} : Left H := { results := [], args := [] }

/-- 'rollcalllaw03.IdentTells': WHATEVER THE INPUT: true; the input reads as it did. -/
def identTellsSpec : ChangeSpec := { name := "identTells", fn := fun _ => fun
  | [d] => { results := [.lit (.bool true)], args := [d] }
  | _ => none }
def identTellsRow : OpenClaim := { program := "ytobhlcogopcbdaa", sum := "5a19bc56fb04e4b76a31a13b3480cca466621d04eacb8488ad64a982a8a3a8d2", func := "rollcall/rollcalllaw03.IdentTells", spec := "identTells", inPlace := ["internal/abi.NoEscape", "internal/bytealg.abigen_runtime_cmpstring"], unfollowed := true, recurses := true, apart := false }
def IdentTellsSaid : Prop := identTellsRow.holds Try.pinned (OpenSpec.ofChange identTellsSpec)

/-- ITS FALSE NEIGHBOUR: 'it returns false'. Refute it at one input. -/
def identTellsWrong : ChangeSpec := { name := "identTells", fn := fun _ => fun
  | [d] => { results := [.lit (.bool false)], args := [d] }
  | _ => none }
def IdentTellsWrongFalsely : Prop := identTellsRow.holds Try.pinned (OpenSpec.ofChange identTellsWrong)

/-- 'rollcalllaw03.IdentTakes': WHATEVER THE INPUT: true; the input reads as it did. -/
def identTakesSpec : ChangeSpec := { name := "identTakes", fn := fun _ => fun
  | [d1, d2] => { results := [.lit (.bool true)], args := [d1, d2] }
  | _ => none }
def identTakesRow : OpenClaim := { program := "ytobhlcogopcbdaa", sum := "5a19bc56fb04e4b76a31a13b3480cca466621d04eacb8488ad64a982a8a3a8d2", func := "rollcall/rollcalllaw03.IdentTakes", spec := "identTakes", inPlace := ["internal/abi.NoEscape", "internal/bytealg.abigen_runtime_cmpstring"], unfollowed := true, recurses := true, apart := false }
def IdentTakesSaid : Prop := identTakesRow.holds Try.pinned (OpenSpec.ofChange identTakesSpec)

/-- ITS FALSE NEIGHBOUR: 'it returns false'. Refute it at one input. -/
def identTakesWrong : ChangeSpec := { name := "identTakes", fn := fun _ => fun
  | [d1, d2] => { results := [.lit (.bool false)], args := [d1, d2] }
  | _ => none }
def IdentTakesWrongFalsely : Prop := identTakesRow.holds Try.pinned (OpenSpec.ofChange identTakesWrong)

/-- 'rollcalllaw03.IdentMerges': WHATEVER THE INPUT: true; the input reads as it did. -/
def identMergesSpec : ChangeSpec := { name := "identMerges", fn := fun _ => fun
  | [d1, d2] => { results := [.lit (.bool true)], args := [d1, d2] }
  | _ => none }
def identMergesRow : OpenClaim := { program := "ytobhlcogopcbdaa", sum := "5a19bc56fb04e4b76a31a13b3480cca466621d04eacb8488ad64a982a8a3a8d2", func := "rollcall/rollcalllaw03.IdentMerges", spec := "identMerges", inPlace := ["internal/abi.NoEscape", "internal/bytealg.abigen_runtime_cmpstring"], unfollowed := true, recurses := true, apart := false }
def IdentMergesSaid : Prop := identMergesRow.holds Try.pinned (OpenSpec.ofChange identMergesSpec)

/-- ITS FALSE NEIGHBOUR: 'it returns false'. Refute it at one input. -/
def identMergesWrong : ChangeSpec := { name := "identMerges", fn := fun _ => fun
  | [d1, d2] => { results := [.lit (.bool false)], args := [d1, d2] }
  | _ => none }
def IdentMergesWrongFalsely : Prop := identMergesRow.holds Try.pinned (OpenSpec.ofChange identMergesWrong)

/-- 'rollcalllaw03.IdentFolds': WHATEVER THE INPUT: true; the input reads as it did. -/
def identFoldsSpec : ChangeSpec := { name := "identFolds", fn := fun _ => fun
  | [d1, d2] => { results := [.lit (.bool true)], args := [d1, d2] }
  | _ => none }
def identFoldsRow : OpenClaim := { program := "ytobhlcogopcbdaa", sum := "5a19bc56fb04e4b76a31a13b3480cca466621d04eacb8488ad64a982a8a3a8d2", func := "rollcall/rollcalllaw03.IdentFolds", spec := "identFolds", inPlace := ["internal/abi.NoEscape", "internal/bytealg.abigen_runtime_cmpstring"], unfollowed := true, recurses := true, apart := false }
def IdentFoldsSaid : Prop := identFoldsRow.holds Try.pinned (OpenSpec.ofChange identFoldsSpec)

/-- ITS FALSE NEIGHBOUR: 'it returns false'. Refute it at one input. -/
def identFoldsWrong : ChangeSpec := { name := "identFolds", fn := fun _ => fun
  | [d1, d2] => { results := [.lit (.bool false)], args := [d1, d2] }
  | _ => none }
def IdentFoldsWrongFalsely : Prop := identFoldsRow.holds Try.pinned (OpenSpec.ofChange identFoldsWrong)

/-- 'rollcalllaw03.IdentOrder': WHATEVER THE INPUT: true; the input reads as it did. -/
def identOrderSpec : ChangeSpec := { name := "identOrder", fn := fun _ => fun
  | [d] => { results := [.lit (.bool true)], args := [d] }
  | _ => none }
def identOrderRow : OpenClaim := { program := "ytobhlcogopcbdaa", sum := "5a19bc56fb04e4b76a31a13b3480cca466621d04eacb8488ad64a982a8a3a8d2", func := "rollcall/rollcalllaw03.IdentOrder", spec := "identOrder", inPlace := ["internal/abi.NoEscape", "internal/bytealg.abigen_runtime_cmpstring"], unfollowed := true, recurses := true, apart := false }
def IdentOrderSaid : Prop := identOrderRow.holds Try.pinned (OpenSpec.ofChange identOrderSpec)

/-- ITS FALSE NEIGHBOUR: 'it returns false'. Refute it at one input. -/
def identOrderWrong : ChangeSpec := { name := "identOrder", fn := fun _ => fun
  | [d] => { results := [.lit (.bool false)], args := [d] }
  | _ => none }
def IdentOrderWrongFalsely : Prop := identOrderRow.holds Try.pinned (OpenSpec.ofChange identOrderWrong)

/-- 'rollcalllaw03.IdentMerged': WHATEVER THE INPUT: true; the input reads as it did. -/
def identMergedSpec : ChangeSpec := { name := "identMerged", fn := fun _ => fun
  | [d1, d2] => { results := [.lit (.bool true)], args := [d1, d2] }
  | _ => none }
def identMergedRow : OpenClaim := { program := "ytobhlcogopcbdaa", sum := "5a19bc56fb04e4b76a31a13b3480cca466621d04eacb8488ad64a982a8a3a8d2", func := "rollcall/rollcalllaw03.IdentMerged", spec := "identMerged", inPlace := ["internal/abi.NoEscape", "internal/bytealg.abigen_runtime_cmpstring"], unfollowed := true, recurses := true, apart := false }
def IdentMergedSaid : Prop := identMergedRow.holds Try.pinned (OpenSpec.ofChange identMergedSpec)

/-- ITS FALSE NEIGHBOUR: 'it returns false'. Refute it at one input. -/
def identMergedWrong : ChangeSpec := { name := "identMerged", fn := fun _ => fun
  | [d1, d2] => { results := [.lit (.bool false)], args := [d1, d2] }
  | _ => none }
def IdentMergedWrongFalsely : Prop := identMergedRow.holds Try.pinned (OpenSpec.ofChange identMergedWrong)

/-- 'rollcalllaw03.IdentCases': WHATEVER THE INPUT: true; the input reads as it did. -/
def identCasesSpec : ChangeSpec := { name := "identCases", fn := fun _ => fun
  | [d1, d2] => { results := [.lit (.bool true)], args := [d1, d2] }
  | _ => none }
def identCasesRow : OpenClaim := { program := "ytobhlcogopcbdaa", sum := "5a19bc56fb04e4b76a31a13b3480cca466621d04eacb8488ad64a982a8a3a8d2", func := "rollcall/rollcalllaw03.IdentCases", spec := "identCases", inPlace := ["internal/abi.NoEscape", "internal/bytealg.abigen_runtime_cmpstring"], unfollowed := true, recurses := true, apart := false }
def IdentCasesSaid : Prop := identCasesRow.holds Try.pinned (OpenSpec.ofChange identCasesSpec)

/-- ITS FALSE NEIGHBOUR: 'it returns false'. Refute it at one input. -/
def identCasesWrong : ChangeSpec := { name := "identCases", fn := fun _ => fun
  | [d1, d2] => { results := [.lit (.bool false)], args := [d1, d2] }
  | _ => none }
def IdentCasesWrongFalsely : Prop := identCasesRow.holds Try.pinned (OpenSpec.ofChange identCasesWrong)

/-- 'rollcalllaw23.ScriptReads': WHATEVER THE INPUT: true; the input reads as it did. -/
def scriptReadsSpec : ChangeSpec := { name := "scriptReads", fn := fun _ => fun
  | [d] => { results := [.lit (.bool true)], args := [d] }
  | _ => none }
def scriptReadsRow : OpenClaim := { program := "ytobhlcogopcbdaa", sum := "5a19bc56fb04e4b76a31a13b3480cca466621d04eacb8488ad64a982a8a3a8d2", func := "rollcall/rollcalllaw23.ScriptReads", spec := "scriptReads", inPlace := ["internal/abi.NoEscape"], unfollowed := true, recurses := true, apart := false }
def ScriptReadsSaid : Prop := scriptReadsRow.holds Try.pinned (OpenSpec.ofChange scriptReadsSpec)

/-- ITS FALSE NEIGHBOUR: 'it returns false'. Refute it at one input. -/
def scriptReadsWrong : ChangeSpec := { name := "scriptReads", fn := fun _ => fun
  | [d] => { results := [.lit (.bool false)], args := [d] }
  | _ => none }
def ScriptReadsWrongFalsely : Prop := scriptReadsRow.holds Try.pinned (OpenSpec.ofChange scriptReadsWrong)

/-- 'rollcalllaw23.ScriptBatches': WHATEVER THE INPUT: true; the input reads as it did. -/
def scriptBatchesSpec : ChangeSpec := { name := "scriptBatches", fn := fun _ => fun
  | [d] => { results := [.lit (.bool true)], args := [d] }
  | _ => none }
def scriptBatchesRow : OpenClaim := { program := "ytobhlcogopcbdaa", sum := "5a19bc56fb04e4b76a31a13b3480cca466621d04eacb8488ad64a982a8a3a8d2", func := "rollcall/rollcalllaw23.ScriptBatches", spec := "scriptBatches", inPlace := ["internal/abi.NoEscape"], unfollowed := true, recurses := true, apart := false }
def ScriptBatchesSaid : Prop := scriptBatchesRow.holds Try.pinned (OpenSpec.ofChange scriptBatchesSpec)

/-- ITS FALSE NEIGHBOUR: 'it returns false'. Refute it at one input. -/
def scriptBatchesWrong : ChangeSpec := { name := "scriptBatches", fn := fun _ => fun
  | [d] => { results := [.lit (.bool false)], args := [d] }
  | _ => none }
def ScriptBatchesWrongFalsely : Prop := scriptBatchesRow.holds Try.pinned (OpenSpec.ofChange scriptBatchesWrong)

/-- 'rollcalllaw23.ScriptBack': WHATEVER THE INPUT: true; the input reads as it did. -/
def scriptBackSpec : ChangeSpec := { name := "scriptBack", fn := fun _ => fun
  | [d1, d2] => { results := [.lit (.bool true)], args := [d1, d2] }
  | _ => none }
def scriptBackRow : OpenClaim := { program := "ytobhlcogopcbdaa", sum := "5a19bc56fb04e4b76a31a13b3480cca466621d04eacb8488ad64a982a8a3a8d2", func := "rollcall/rollcalllaw23.ScriptBack", spec := "scriptBack", inPlace := ["internal/abi.NoEscape"], unfollowed := true, recurses := true, apart := false }
def ScriptBackSaid : Prop := scriptBackRow.holds Try.pinned (OpenSpec.ofChange scriptBackSpec)

/-- ITS FALSE NEIGHBOUR: 'it returns false'. Refute it at one input. -/
def scriptBackWrong : ChangeSpec := { name := "scriptBack", fn := fun _ => fun
  | [d1, d2] => { results := [.lit (.bool false)], args := [d1, d2] }
  | _ => none }
def ScriptBackWrongFalsely : Prop := scriptBackRow.holds Try.pinned (OpenSpec.ofChange scriptBackWrong)

/-- 'rollcalllaw23.ScriptSpoils': WHATEVER THE INPUT: true; the input reads as it did. -/
def scriptSpoilsSpec : ChangeSpec := { name := "scriptSpoils", fn := fun _ => fun
  | [d1, d2, d3] => { results := [.lit (.bool true)], args := [d1, d2, d3] }
  | _ => none }
def scriptSpoilsRow : OpenClaim := { program := "ytobhlcogopcbdaa", sum := "5a19bc56fb04e4b76a31a13b3480cca466621d04eacb8488ad64a982a8a3a8d2", func := "rollcall/rollcalllaw23.ScriptSpoils", spec := "scriptSpoils", inPlace := ["internal/abi.NoEscape"], unfollowed := true, recurses := true, apart := false }
def ScriptSpoilsSaid : Prop := scriptSpoilsRow.holds Try.pinned (OpenSpec.ofChange scriptSpoilsSpec)

/-- ITS FALSE NEIGHBOUR: 'it returns false'. Refute it at one input. -/
def scriptSpoilsWrong : ChangeSpec := { name := "scriptSpoils", fn := fun _ => fun
  | [d1, d2, d3] => { results := [.lit (.bool false)], args := [d1, d2, d3] }
  | _ => none }
def ScriptSpoilsWrongFalsely : Prop := scriptSpoilsRow.holds Try.pinned (OpenSpec.ofChange scriptSpoilsWrong)

/-- 'rollcalllaw23.ScriptJoins': WHATEVER THE INPUT: true; the input reads as it did. -/
def scriptJoinsSpec : ChangeSpec := { name := "scriptJoins", fn := fun _ => fun
  | [d1, d2] => { results := [.lit (.bool true)], args := [d1, d2] }
  | _ => none }
def scriptJoinsRow : OpenClaim := { program := "ytobhlcogopcbdaa", sum := "5a19bc56fb04e4b76a31a13b3480cca466621d04eacb8488ad64a982a8a3a8d2", func := "rollcall/rollcalllaw23.ScriptJoins", spec := "scriptJoins", inPlace := ["internal/abi.NoEscape"], unfollowed := true, recurses := true, apart := false }
def ScriptJoinsSaid : Prop := scriptJoinsRow.holds Try.pinned (OpenSpec.ofChange scriptJoinsSpec)

/-- ITS FALSE NEIGHBOUR: 'it returns false'. Refute it at one input. -/
def scriptJoinsWrong : ChangeSpec := { name := "scriptJoins", fn := fun _ => fun
  | [d1, d2] => { results := [.lit (.bool false)], args := [d1, d2] }
  | _ => none }
def ScriptJoinsWrongFalsely : Prop := scriptJoinsRow.holds Try.pinned (OpenSpec.ofChange scriptJoinsWrong)

/- THE SECOND FORM. 'bulk': how many values and letters a reading holds, each counted each time it is reached (what is shared counts as often as it is met; a slice's spare places count too). A statement '..UptoSaid' is the law's where the arguments, and the package variables that the reading takes, are together of bulk at most 1048576: NARROWER than '..Said'. Prove '..Said' where nothing that the law and all that it calls make is longer than what came in: it says more and counts as full. Else prove '..UptoSaid'. A law counts once. -/
mutual
def uptoBulk {H : Type} : DataW H → Nat
  | .lit (.string bytes) => bytes.length + 1
  | .lit _ => 1
  | .nil => 1
  | .ptr d => uptoBulk d + 1
  | .slice elems spare => uptoBulkAll elems + uptoBulkAll spare + 1
  | .agg parts => uptoBulkAll parts + 1
  | .iface _ d => uptoBulk d + 1
  | .map entries => uptoBulkEntries entries + 1
  | .held _ => 1
def uptoBulkAll {H : Type} : List (DataW H) → Nat
  | [] => 0
  | d :: r => uptoBulk d + uptoBulkAll r
def uptoBulkEntries {H : Type} : List (Lit × DataW H) → Nat
  | [] => 0
  | x :: r => uptoBulkEntry x + uptoBulkEntries r
def uptoBulkEntry {H : Type} : Lit × DataW H → Nat
  | (.string bytes, d) => bytes.length + uptoBulk d + 1
  | (_, d) => uptoBulk d + 1
 end
def uptoSmall : (H : Type) → List (DataW H) → Bool := fun _ ds => decide (uptoBulkAll ds ≤ 1048576)
def OpenSpec.upto (s : _root_.Go.ChangeSpec) : _root_.Go.OpenSpec := { _root_.Go.OpenSpec.ofChange s with cond := some uptoSmall }

/-- 'rollcalllaw03.IdentTells', WHERE WHAT IT READS IS OF BULK AT MOST 1048576: true; the input reads as it did. -/
def identTellsUptoRow : OpenClaim := { program := "ytobhlcogopcbdaa", sum := "5a19bc56fb04e4b76a31a13b3480cca466621d04eacb8488ad64a982a8a3a8d2", func := "rollcall/rollcalllaw03.IdentTells", spec := "identTells", inPlace := ["internal/abi.NoEscape", "internal/bytealg.abigen_runtime_cmpstring"], unfollowed := true, recurses := true, apart := false, narrowed := true }
def IdentTellsUptoSaid : Prop := identTellsUptoRow.holds Try.pinned (OpenSpec.upto identTellsSpec)

/-- 'rollcalllaw03.IdentTakes', WHERE WHAT IT READS IS OF BULK AT MOST 1048576: true; the input reads as it did. -/
def identTakesUptoRow : OpenClaim := { program := "ytobhlcogopcbdaa", sum := "5a19bc56fb04e4b76a31a13b3480cca466621d04eacb8488ad64a982a8a3a8d2", func := "rollcall/rollcalllaw03.IdentTakes", spec := "identTakes", inPlace := ["internal/abi.NoEscape", "internal/bytealg.abigen_runtime_cmpstring"], unfollowed := true, recurses := true, apart := false, narrowed := true }
def IdentTakesUptoSaid : Prop := identTakesUptoRow.holds Try.pinned (OpenSpec.upto identTakesSpec)

/-- 'rollcalllaw03.IdentMerges', WHERE WHAT IT READS IS OF BULK AT MOST 1048576: true; the input reads as it did. -/
def identMergesUptoRow : OpenClaim := { program := "ytobhlcogopcbdaa", sum := "5a19bc56fb04e4b76a31a13b3480cca466621d04eacb8488ad64a982a8a3a8d2", func := "rollcall/rollcalllaw03.IdentMerges", spec := "identMerges", inPlace := ["internal/abi.NoEscape", "internal/bytealg.abigen_runtime_cmpstring"], unfollowed := true, recurses := true, apart := false, narrowed := true }
def IdentMergesUptoSaid : Prop := identMergesUptoRow.holds Try.pinned (OpenSpec.upto identMergesSpec)

/-- 'rollcalllaw03.IdentFolds', WHERE WHAT IT READS IS OF BULK AT MOST 1048576: true; the input reads as it did. -/
def identFoldsUptoRow : OpenClaim := { program := "ytobhlcogopcbdaa", sum := "5a19bc56fb04e4b76a31a13b3480cca466621d04eacb8488ad64a982a8a3a8d2", func := "rollcall/rollcalllaw03.IdentFolds", spec := "identFolds", inPlace := ["internal/abi.NoEscape", "internal/bytealg.abigen_runtime_cmpstring"], unfollowed := true, recurses := true, apart := false, narrowed := true }
def IdentFoldsUptoSaid : Prop := identFoldsUptoRow.holds Try.pinned (OpenSpec.upto identFoldsSpec)

/-- 'rollcalllaw03.IdentOrder', WHERE WHAT IT READS IS OF BULK AT MOST 1048576: true; the input reads as it did. -/
def identOrderUptoRow : OpenClaim := { program := "ytobhlcogopcbdaa", sum := "5a19bc56fb04e4b76a31a13b3480cca466621d04eacb8488ad64a982a8a3a8d2", func := "rollcall/rollcalllaw03.IdentOrder", spec := "identOrder", inPlace := ["internal/abi.NoEscape", "internal/bytealg.abigen_runtime_cmpstring"], unfollowed := true, recurses := true, apart := false, narrowed := true }
def IdentOrderUptoSaid : Prop := identOrderUptoRow.holds Try.pinned (OpenSpec.upto identOrderSpec)

/-- 'rollcalllaw03.IdentMerged', WHERE WHAT IT READS IS OF BULK AT MOST 1048576: true; the input reads as it did. -/
def identMergedUptoRow : OpenClaim := { program := "ytobhlcogopcbdaa", sum := "5a19bc56fb04e4b76a31a13b3480cca466621d04eacb8488ad64a982a8a3a8d2", func := "rollcall/rollcalllaw03.IdentMerged", spec := "identMerged", inPlace := ["internal/abi.NoEscape", "internal/bytealg.abigen_runtime_cmpstring"], unfollowed := true, recurses := true, apart := false, narrowed := true }
def IdentMergedUptoSaid : Prop := identMergedUptoRow.holds Try.pinned (OpenSpec.upto identMergedSpec)

/-- 'rollcalllaw03.IdentCases', WHERE WHAT IT READS IS OF BULK AT MOST 1048576: true; the input reads as it did. -/
def identCasesUptoRow : OpenClaim := { program := "ytobhlcogopcbdaa", sum := "5a19bc56fb04e4b76a31a13b3480cca466621d04eacb8488ad64a982a8a3a8d2", func := "rollcall/rollcalllaw03.IdentCases", spec := "identCases", inPlace := ["internal/abi.NoEscape", "internal/bytealg.abigen_runtime_cmpstring"], unfollowed := true, recurses := true, apart := false, narrowed := true }
def IdentCasesUptoSaid : Prop := identCasesUptoRow.holds Try.pinned (OpenSpec.upto identCasesSpec)

/-- 'rollcalllaw23.ScriptReads', WHERE WHAT IT READS IS OF BULK AT MOST 1048576: true; the input reads as it did. -/
def scriptReadsUptoRow : OpenClaim := { program := "ytobhlcogopcbdaa", sum := "5a19bc56fb04e4b76a31a13b3480cca466621d04eacb8488ad64a982a8a3a8d2", func := "rollcall/rollcalllaw23.ScriptReads", spec := "scriptReads", inPlace := ["internal/abi.NoEscape"], unfollowed := true, recurses := true, apart := false, narrowed := true }
def ScriptReadsUptoSaid : Prop := scriptReadsUptoRow.holds Try.pinned (OpenSpec.upto scriptReadsSpec)

/-- 'rollcalllaw23.ScriptBatches', WHERE WHAT IT READS IS OF BULK AT MOST 1048576: true; the input reads as it did. -/
def scriptBatchesUptoRow : OpenClaim := { program := "ytobhlcogopcbdaa", sum := "5a19bc56fb04e4b76a31a13b3480cca466621d04eacb8488ad64a982a8a3a8d2", func := "rollcall/rollcalllaw23.ScriptBatches", spec := "scriptBatches", inPlace := ["internal/abi.NoEscape"], unfollowed := true, recurses := true, apart := false, narrowed := true }
def ScriptBatchesUptoSaid : Prop := scriptBatchesUptoRow.holds Try.pinned (OpenSpec.upto scriptBatchesSpec)

/-- 'rollcalllaw23.ScriptBack', WHERE WHAT IT READS IS OF BULK AT MOST 1048576: true; the input reads as it did. -/
def scriptBackUptoRow : OpenClaim := { program := "ytobhlcogopcbdaa", sum := "5a19bc56fb04e4b76a31a13b3480cca466621d04eacb8488ad64a982a8a3a8d2", func := "rollcall/rollcalllaw23.ScriptBack", spec := "scriptBack", inPlace := ["internal/abi.NoEscape"], unfollowed := true, recurses := true, apart := false, narrowed := true }
def ScriptBackUptoSaid : Prop := scriptBackUptoRow.holds Try.pinned (OpenSpec.upto scriptBackSpec)

/-- 'rollcalllaw23.ScriptSpoils', WHERE WHAT IT READS IS OF BULK AT MOST 1048576: true; the input reads as it did. -/
def scriptSpoilsUptoRow : OpenClaim := { program := "ytobhlcogopcbdaa", sum := "5a19bc56fb04e4b76a31a13b3480cca466621d04eacb8488ad64a982a8a3a8d2", func := "rollcall/rollcalllaw23.ScriptSpoils", spec := "scriptSpoils", inPlace := ["internal/abi.NoEscape"], unfollowed := true, recurses := true, apart := false, narrowed := true }
def ScriptSpoilsUptoSaid : Prop := scriptSpoilsUptoRow.holds Try.pinned (OpenSpec.upto scriptSpoilsSpec)

/-- 'rollcalllaw23.ScriptJoins', WHERE WHAT IT READS IS OF BULK AT MOST 1048576: true; the input reads as it did. -/
def scriptJoinsUptoRow : OpenClaim := { program := "ytobhlcogopcbdaa", sum := "5a19bc56fb04e4b76a31a13b3480cca466621d04eacb8488ad64a982a8a3a8d2", func := "rollcall/rollcalllaw23.ScriptJoins", spec := "scriptJoins", inPlace := ["internal/abi.NoEscape"], unfollowed := true, recurses := true, apart := false, narrowed := true }
def ScriptJoinsUptoSaid : Prop := scriptJoinsUptoRow.holds Try.pinned (OpenSpec.upto scriptJoinsSpec)

end Rows
end Go.Proofs.Ytobhlcogopcbdaa
