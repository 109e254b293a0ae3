/-
  No cell of these rows narrows 'for every input' (looked for: loops, veiled, ifaces, maps, wideKeys, modest, calm, conditions, laid).
  DERIVED. THE GIVEN ROWS OF THIS SEAT. 6 by the template 'for every input the law returns true; each argument reads behind the call as it read before'; 0 by the template 'total and deterministic' (their statements: YtocdoddmaopdbaaTotals.lean).
  GIVEN WITH THE SEED: the statements are not yours to turn. If you find one false, say at which input.
  Laid BY PROGRAM, IN A SANDBOX (cutbox-rows.mjs): the forced cells as the released guide's own fill.sh prints them over the translation 45aef31a45a37a39… (all of the seat's roots in one cut). By AI agents, Wed Nov 11 2026. No macro, syntax, notation, axiom, sorry.
-/
import Derived.Test.YtocdoddmaopdbaaChecked
import GoSem.Claim
import GoSem.ClaimJoined
import GoSem.ClaimMapViews
import Derived.JoinedTies
import Derived.KernelRfl
namespace Go.Proofs.Ytocdoddmaopdbaa
/- THE CELL 'sum', in the pinned program and in every row, IS THE sha256 OF THE DUMP (.gsa) THAT YtocdoddmaopdbaaProg.lean LOADS. Nothing in Lean hashes anything: it is a label: what it is worth is what the hold of that sum in a sandbox is worth. -/
noncomputable def Try.pinned : Pinned := { name := "ytocdoddmaopdbaa", sum := "45aef31a45a37a393b7d4dd089ce2d2ae7a66e4dda0ec5f99f3e5f6da3df52dc", checked := Try.checked }
namespace Rows
def none {H : Type} : Left H := { results := [], args := [] }

/-- 'rollcalllaw13.IndexScripts': WHATEVER THE INPUT: true; the input reads as it did. -/
def indexScriptsSpec : ChangeSpec := { name := "indexScripts", fn := fun _ => fun
  | [d] => { results := [.lit (.bool true)], args := [d] }
  | _ => none }
def indexScriptsRow : OpenClaim := { program := "ytocdoddmaopdbaa", sum := "45aef31a45a37a393b7d4dd089ce2d2ae7a66e4dda0ec5f99f3e5f6da3df52dc", func := "rollcall/rollcalllaw13.IndexScripts", spec := "indexScripts", inPlace := ["internal/bytealg.abigen_runtime_cmpstring"], unfollowed := true, recurses := true, plainKeys := false, apart := false }
def IndexScriptsSaid : Prop := indexScriptsRow.holds Try.pinned (OpenSpec.ofChange indexScriptsSpec)

/-- ITS FALSE NEIGHBOUR: 'it returns false'. Refute it at one input. -/
def indexScriptsWrong : ChangeSpec := { name := "indexScripts", fn := fun _ => fun
  | [d] => { results := [.lit (.bool false)], args := [d] }
  | _ => none }
def IndexScriptsWrongFalsely : Prop := indexScriptsRow.holds Try.pinned (OpenSpec.ofChange indexScriptsWrong)

/-- 'rollcalllaw13.IndexBoth': WHATEVER THE INPUT: true; the input reads as it did. -/
def indexBothSpec : ChangeSpec := { name := "indexBoth", fn := fun _ => fun
  | [d] => { results := [.lit (.bool true)], args := [d] }
  | _ => none }
def indexBothRow : OpenClaim := { program := "ytocdoddmaopdbaa", sum := "45aef31a45a37a393b7d4dd089ce2d2ae7a66e4dda0ec5f99f3e5f6da3df52dc", func := "rollcall/rollcalllaw13.IndexBoth", spec := "indexBoth", inPlace := ["internal/bytealg.abigen_runtime_cmpstring"], unfollowed := true, recurses := true, plainKeys := false, apart := false }
def IndexBothSaid : Prop := indexBothRow.holds Try.pinned (OpenSpec.ofChange indexBothSpec)

/-- ITS FALSE NEIGHBOUR: 'it returns false'. Refute it at one input. -/
def indexBothWrong : ChangeSpec := { name := "indexBoth", fn := fun _ => fun
  | [d] => { results := [.lit (.bool false)], args := [d] }
  | _ => none }
def IndexBothWrongFalsely : Prop := indexBothRow.holds Try.pinned (OpenSpec.ofChange indexBothWrong)

/-- 'rollcalllaw13.IndexLast': WHATEVER THE INPUT: true; the input reads as it did. -/
def indexLastSpec : ChangeSpec := { name := "indexLast", fn := fun _ => fun
  | [d1, d2, d3] => { results := [.lit (.bool true)], args := [d1, d2, d3] }
  | _ => none }
def indexLastRow : OpenClaim := { program := "ytocdoddmaopdbaa", sum := "45aef31a45a37a393b7d4dd089ce2d2ae7a66e4dda0ec5f99f3e5f6da3df52dc", func := "rollcall/rollcalllaw13.IndexLast", spec := "indexLast", inPlace := ["internal/bytealg.abigen_runtime_cmpstring"], unfollowed := true, recurses := true, plainKeys := false, apart := false }
def IndexLastSaid : Prop := indexLastRow.holds Try.pinned (OpenSpec.ofChange indexLastSpec)

/-- ITS FALSE NEIGHBOUR: 'it returns false'. Refute it at one input. -/
def indexLastWrong : ChangeSpec := { name := "indexLast", fn := fun _ => fun
  | [d1, d2, d3] => { results := [.lit (.bool false)], args := [d1, d2, d3] }
  | _ => none }
def IndexLastWrongFalsely : Prop := indexLastRow.holds Try.pinned (OpenSpec.ofChange indexLastWrong)

/-- 'rollcalllaw13.IndexNil': WHATEVER THE INPUT: true; the input reads as it did. -/
def indexNilSpec : ChangeSpec := { name := "indexNil", fn := fun _ => fun
  | [d1, d2] => { results := [.lit (.bool true)], args := [d1, d2] }
  | _ => none }
def indexNilRow : OpenClaim := { program := "ytocdoddmaopdbaa", sum := "45aef31a45a37a393b7d4dd089ce2d2ae7a66e4dda0ec5f99f3e5f6da3df52dc", func := "rollcall/rollcalllaw13.IndexNil", spec := "indexNil", inPlace := ["internal/bytealg.abigen_runtime_cmpstring"], unfollowed := true, recurses := true, plainKeys := false, apart := false }
def IndexNilSaid : Prop := indexNilRow.holds Try.pinned (OpenSpec.ofChange indexNilSpec)

/-- ITS FALSE NEIGHBOUR: 'it returns false'. Refute it at one input. -/
def indexNilWrong : ChangeSpec := { name := "indexNil", fn := fun _ => fun
  | [d1, d2] => { results := [.lit (.bool false)], args := [d1, d2] }
  | _ => none }
def IndexNilWrongFalsely : Prop := indexNilRow.holds Try.pinned (OpenSpec.ofChange indexNilWrong)

/-- 'rollcalllaw13.IndexTurned': WHATEVER THE INPUT: true; the input reads as it did. -/
def indexTurnedSpec : ChangeSpec := { name := "indexTurned", fn := fun _ => fun
  | [d] => { results := [.lit (.bool true)], args := [d] }
  | _ => none }
def indexTurnedRow : OpenClaim := { program := "ytocdoddmaopdbaa", sum := "45aef31a45a37a393b7d4dd089ce2d2ae7a66e4dda0ec5f99f3e5f6da3df52dc", func := "rollcall/rollcalllaw13.IndexTurned", spec := "indexTurned", inPlace := ["internal/bytealg.abigen_runtime_cmpstring"], unfollowed := true, recurses := true, plainKeys := false, apart := false }
def IndexTurnedSaid : Prop := indexTurnedRow.holds Try.pinned (OpenSpec.ofChange indexTurnedSpec)

/-- ITS FALSE NEIGHBOUR: 'it returns false'. Refute it at one input. -/
def indexTurnedWrong : ChangeSpec := { name := "indexTurned", fn := fun _ => fun
  | [d] => { results := [.lit (.bool false)], args := [d] }
  | _ => none }
def IndexTurnedWrongFalsely : Prop := indexTurnedRow.holds Try.pinned (OpenSpec.ofChange indexTurnedWrong)

/-- 'rollcalllaw13.IndexKept': WHATEVER THE INPUT: true; the input reads as it did. -/
def indexKeptSpec : ChangeSpec := { name := "indexKept", fn := fun _ => fun
  | [d1, d2] => { results := [.lit (.bool true)], args := [d1, d2] }
  | _ => none }
def indexKeptRow : OpenClaim := { program := "ytocdoddmaopdbaa", sum := "45aef31a45a37a393b7d4dd089ce2d2ae7a66e4dda0ec5f99f3e5f6da3df52dc", func := "rollcall/rollcalllaw13.IndexKept", spec := "indexKept", inPlace := ["internal/bytealg.abigen_runtime_cmpstring", "slices.overlaps[rollcall/api.Entry]"], unfollowed := true, recurses := true, plainKeys := false, apart := false }
def IndexKeptSaid : Prop := indexKeptRow.holds Try.pinned (OpenSpec.ofChange indexKeptSpec)

/-- ITS FALSE NEIGHBOUR: 'it returns false'. Refute it at one input. -/
def indexKeptWrong : ChangeSpec := { name := "indexKept", fn := fun _ => fun
  | [d1, d2] => { results := [.lit (.bool false)], args := [d1, d2] }
  | _ => none }
def IndexKeptWrongFalsely : Prop := indexKeptRow.holds Try.pinned (OpenSpec.ofChange indexKeptWrong)

/- THE SECOND FORM. 'bulk': how many values and letters a reading holds, each counted each time it is reached (what is shared counts as often as it is met; a slice's spare places count too). A statement '..UptoSaid' is the law's where the arguments, and the package variables that the reading takes, are together of bulk at most 1048576: NARROWER than '..Said'. Prove '..Said' where nothing that the law and all that it calls make is longer than what came in: it says more and counts as full. Else prove '..UptoSaid'. A law counts once. -/
mutual
def uptoBulk {H : Type} : DataW H → Nat
  | .lit (.string bytes) => bytes.length + 1
  | .lit _ => 1
  | .nil => 1
  | .ptr d => uptoBulk d + 1
  | .slice elems spare => uptoBulkAll elems + uptoBulkAll spare + 1
  | .agg parts => uptoBulkAll parts + 1
  | .iface _ d => uptoBulk d + 1
  | .map entries => uptoBulkEntries entries + 1
  | .held _ => 1
def uptoBulkAll {H : Type} : List (DataW H) → Nat
  | [] => 0
  | d :: r => uptoBulk d + uptoBulkAll r
def uptoBulkEntries {H : Type} : List (Lit × DataW H) → Nat
  | [] => 0
  | x :: r => uptoBulkEntry x + uptoBulkEntries r
def uptoBulkEntry {H : Type} : Lit × DataW H → Nat
  | (.string bytes, d) => bytes.length + uptoBulk d + 1
  | (_, d) => uptoBulk d + 1
 end
def uptoSmall : (H : Type) → List (DataW H) → Bool := fun _ ds => decide (uptoBulkAll ds ≤ 1048576)
def OpenSpec.upto (s : _root_.Go.ChangeSpec) : _root_.Go.OpenSpec := { _root_.Go.OpenSpec.ofChange s with cond := some uptoSmall }

/-- 'rollcalllaw13.IndexScripts', WHERE WHAT IT READS IS OF BULK AT MOST 1048576: true; the input reads as it did. -/
def indexScriptsUptoRow : OpenClaim := { program := "ytocdoddmaopdbaa", sum := "45aef31a45a37a393b7d4dd089ce2d2ae7a66e4dda0ec5f99f3e5f6da3df52dc", func := "rollcall/rollcalllaw13.IndexScripts", spec := "indexScripts", inPlace := ["internal/bytealg.abigen_runtime_cmpstring"], unfollowed := true, recurses := true, plainKeys := false, apart := false, narrowed := true }
def IndexScriptsUptoSaid : Prop := indexScriptsUptoRow.holds Try.pinned (OpenSpec.upto indexScriptsSpec)

/-- 'rollcalllaw13.IndexBoth', WHERE WHAT IT READS IS OF BULK AT MOST 1048576: true; the input reads as it did. -/
def indexBothUptoRow : OpenClaim := { program := "ytocdoddmaopdbaa", sum := "45aef31a45a37a393b7d4dd089ce2d2ae7a66e4dda0ec5f99f3e5f6da3df52dc", func := "rollcall/rollcalllaw13.IndexBoth", spec := "indexBoth", inPlace := ["internal/bytealg.abigen_runtime_cmpstring"], unfollowed := true, recurses := true, plainKeys := false, apart := false, narrowed := true }
def IndexBothUptoSaid : Prop := indexBothUptoRow.holds Try.pinned (OpenSpec.upto indexBothSpec)

/-- 'rollcalllaw13.IndexLast', WHERE WHAT IT READS IS OF BULK AT MOST 1048576: true; the input reads as it did. -/
def indexLastUptoRow : OpenClaim := { program := "ytocdoddmaopdbaa", sum := "45aef31a45a37a393b7d4dd089ce2d2ae7a66e4dda0ec5f99f3e5f6da3df52dc", func := "rollcall/rollcalllaw13.IndexLast", spec := "indexLast", inPlace := ["internal/bytealg.abigen_runtime_cmpstring"], unfollowed := true, recurses := true, plainKeys := false, apart := false, narrowed := true }
def IndexLastUptoSaid : Prop := indexLastUptoRow.holds Try.pinned (OpenSpec.upto indexLastSpec)

/-- 'rollcalllaw13.IndexNil', WHERE WHAT IT READS IS OF BULK AT MOST 1048576: true; the input reads as it did. -/
def indexNilUptoRow : OpenClaim := { program := "ytocdoddmaopdbaa", sum := "45aef31a45a37a393b7d4dd089ce2d2ae7a66e4dda0ec5f99f3e5f6da3df52dc", func := "rollcall/rollcalllaw13.IndexNil", spec := "indexNil", inPlace := ["internal/bytealg.abigen_runtime_cmpstring"], unfollowed := true, recurses := true, plainKeys := false, apart := false, narrowed := true }
def IndexNilUptoSaid : Prop := indexNilUptoRow.holds Try.pinned (OpenSpec.upto indexNilSpec)

/-- 'rollcalllaw13.IndexTurned', WHERE WHAT IT READS IS OF BULK AT MOST 1048576: true; the input reads as it did. -/
def indexTurnedUptoRow : OpenClaim := { program := "ytocdoddmaopdbaa", sum := "45aef31a45a37a393b7d4dd089ce2d2ae7a66e4dda0ec5f99f3e5f6da3df52dc", func := "rollcall/rollcalllaw13.IndexTurned", spec := "indexTurned", inPlace := ["internal/bytealg.abigen_runtime_cmpstring"], unfollowed := true, recurses := true, plainKeys := false, apart := false, narrowed := true }
def IndexTurnedUptoSaid : Prop := indexTurnedUptoRow.holds Try.pinned (OpenSpec.upto indexTurnedSpec)

/-- 'rollcalllaw13.IndexKept', WHERE WHAT IT READS IS OF BULK AT MOST 1048576: true; the input reads as it did. -/
def indexKeptUptoRow : OpenClaim := { program := "ytocdoddmaopdbaa", sum := "45aef31a45a37a393b7d4dd089ce2d2ae7a66e4dda0ec5f99f3e5f6da3df52dc", func := "rollcall/rollcalllaw13.IndexKept", spec := "indexKept", inPlace := ["internal/bytealg.abigen_runtime_cmpstring", "slices.overlaps[rollcall/api.Entry]"], unfollowed := true, recurses := true, plainKeys := false, apart := false, narrowed := true }
def IndexKeptUptoSaid : Prop := indexKeptUptoRow.holds Try.pinned (OpenSpec.upto indexKeptSpec)

end Rows
end Go.Proofs.Ytocdoddmaopdbaa
