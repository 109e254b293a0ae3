/-
  No cell of these rows narrows 'for every input' (looked for: loops, veiled, ifaces, maps, wideKeys, modest, calm, conditions, laid).
  DERIVED. THE GIVEN ROWS OF THIS SEAT. 7 by the template 'for every input the law returns true; each argument reads behind the call as it read before'; 0 by the template 'total and deterministic' (their statements: YtpmafghknafhaaaTotals.lean).
  GIVEN WITH THE SEED: the statements are not yours to turn. If you find one false, say at which input.
  Laid BY PROGRAM, IN A SANDBOX (cutbox-rows.mjs): the forced cells as the released guide's own fill.sh prints them over the translation 694a28f5ad7f6fcc… (all of the seat's roots in one cut). By AI agents, Wed Nov 11 2026. No macro, syntax, notation, axiom, sorry.
-/
import Derived.Test.YtpmafghknafhaaaChecked
import GoSem.Claim
import GoSem.ClaimJoined
import GoSem.ClaimMapViews
import Derived.JoinedTies
import Derived.KernelRfl
namespace Go.Proofs.Ytpmafghknafhaaa
/- THE CELL 'sum', in the pinned program and in every row, IS THE sha256 OF THE DUMP (.gsa) THAT YtpmafghknafhaaaProg.lean LOADS. Nothing in Lean hashes anything: it is a label: what it is worth is what the hold of that sum in a sandbox is worth. -/
noncomputable def Try.pinned : Pinned := { name := "ytpmafghknafhaaa", sum := "694a28f5ad7f6fcc6c56cabaf7c3b4baa655b8b692775d1400fa9ed0764f6ea6", checked := Try.checked }
namespace Rows
def none {H : Type} : Left H := { results := [], args := [] }

/-- 'rollcalllaw08.RostTells': WHATEVER THE INPUT: true; the input reads as it did. -/
def rostTellsSpec : ChangeSpec := { name := "rostTells", fn := fun _ => fun
  | [d1, d2, d3] => { results := [.lit (.bool true)], args := [d1, d2, d3] }
  | _ => none }
def rostTellsRow : OpenClaim := { program := "ytpmafghknafhaaa", sum := "694a28f5ad7f6fcc6c56cabaf7c3b4baa655b8b692775d1400fa9ed0764f6ea6", func := "rollcall/rollcalllaw08.RostTells", spec := "rostTells", inPlace := ["internal/bytealg.abigen_runtime_cmpstring", "slices.overlaps[rollcall/api.Entry]"], unfollowed := true, recurses := true, plainKeys := false, apart := false }
def RostTellsSaid : Prop := rostTellsRow.holds Try.pinned (OpenSpec.ofChange rostTellsSpec)

/-- ITS FALSE NEIGHBOUR: 'it returns false'. Refute it at one input. -/
def rostTellsWrong : ChangeSpec := { name := "rostTells", fn := fun _ => fun
  | [d1, d2, d3] => { results := [.lit (.bool false)], args := [d1, d2, d3] }
  | _ => none }
def RostTellsWrongFalsely : Prop := rostTellsRow.holds Try.pinned (OpenSpec.ofChange rostTellsWrong)

/-- 'rollcalllaw08.RostDoes': WHATEVER THE INPUT: true; the input reads as it did. -/
def rostDoesSpec : ChangeSpec := { name := "rostDoes", fn := fun _ => fun
  | [d1, d2] => { results := [.lit (.bool true)], args := [d1, d2] }
  | _ => none }
def rostDoesRow : OpenClaim := { program := "ytpmafghknafhaaa", sum := "694a28f5ad7f6fcc6c56cabaf7c3b4baa655b8b692775d1400fa9ed0764f6ea6", func := "rollcall/rollcalllaw08.RostDoes", spec := "rostDoes", inPlace := ["internal/bytealg.abigen_runtime_cmpstring", "slices.overlaps[rollcall/api.Entry]"], unfollowed := true, recurses := true, plainKeys := false, apart := false }
def RostDoesSaid : Prop := rostDoesRow.holds Try.pinned (OpenSpec.ofChange rostDoesSpec)

/-- ITS FALSE NEIGHBOUR: 'it returns false'. Refute it at one input. -/
def rostDoesWrong : ChangeSpec := { name := "rostDoes", fn := fun _ => fun
  | [d1, d2] => { results := [.lit (.bool false)], args := [d1, d2] }
  | _ => none }
def RostDoesWrongFalsely : Prop := rostDoesRow.holds Try.pinned (OpenSpec.ofChange rostDoesWrong)

/-- 'rollcalllaw08.RostMay': WHATEVER THE INPUT: true; the input reads as it did. -/
def rostMaySpec : ChangeSpec := { name := "rostMay", fn := fun _ => fun
  | [d] => { results := [.lit (.bool true)], args := [d] }
  | _ => none }
def rostMayRow : OpenClaim := { program := "ytpmafghknafhaaa", sum := "694a28f5ad7f6fcc6c56cabaf7c3b4baa655b8b692775d1400fa9ed0764f6ea6", func := "rollcall/rollcalllaw08.RostMay", spec := "rostMay", inPlace := ["internal/bytealg.abigen_runtime_cmpstring", "slices.overlaps[rollcall/api.Entry]"], unfollowed := true, recurses := true, plainKeys := false, apart := false }
def RostMaySaid : Prop := rostMayRow.holds Try.pinned (OpenSpec.ofChange rostMaySpec)

/-- ITS FALSE NEIGHBOUR: 'it returns false'. Refute it at one input. -/
def rostMayWrong : ChangeSpec := { name := "rostMay", fn := fun _ => fun
  | [d] => { results := [.lit (.bool false)], args := [d] }
  | _ => none }
def RostMayWrongFalsely : Prop := rostMayRow.holds Try.pinned (OpenSpec.ofChange rostMayWrong)

/-- 'rollcalllaw08.RostOthers': WHATEVER THE INPUT: true; the input reads as it did. -/
def rostOthersSpec : ChangeSpec := { name := "rostOthers", fn := fun _ => fun
  | [d1, d2, d3] => { results := [.lit (.bool true)], args := [d1, d2, d3] }
  | _ => none }
def rostOthersRow : OpenClaim := { program := "ytpmafghknafhaaa", sum := "694a28f5ad7f6fcc6c56cabaf7c3b4baa655b8b692775d1400fa9ed0764f6ea6", func := "rollcall/rollcalllaw08.RostOthers", spec := "rostOthers", inPlace := ["internal/bytealg.abigen_runtime_cmpstring", "slices.overlaps[rollcall/api.Entry]"], unfollowed := true, recurses := true, plainKeys := false, apart := false }
def RostOthersSaid : Prop := rostOthersRow.holds Try.pinned (OpenSpec.ofChange rostOthersSpec)

/-- ITS FALSE NEIGHBOUR: 'it returns false'. Refute it at one input. -/
def rostOthersWrong : ChangeSpec := { name := "rostOthers", fn := fun _ => fun
  | [d1, d2, d3] => { results := [.lit (.bool false)], args := [d1, d2, d3] }
  | _ => none }
def RostOthersWrongFalsely : Prop := rostOthersRow.holds Try.pinned (OpenSpec.ofChange rostOthersWrong)

/-- 'rollcalllaw08.RostWatchers': WHATEVER THE INPUT: true; the input reads as it did. -/
def rostWatchersSpec : ChangeSpec := { name := "rostWatchers", fn := fun _ => fun
  | [d1, d2, d3] => { results := [.lit (.bool true)], args := [d1, d2, d3] }
  | _ => none }
def rostWatchersRow : OpenClaim := { program := "ytpmafghknafhaaa", sum := "694a28f5ad7f6fcc6c56cabaf7c3b4baa655b8b692775d1400fa9ed0764f6ea6", func := "rollcall/rollcalllaw08.RostWatchers", spec := "rostWatchers", inPlace := ["internal/bytealg.abigen_runtime_cmpstring", "slices.overlaps[rollcall/api.Entry]"], unfollowed := true, recurses := true, plainKeys := false, apart := false }
def RostWatchersSaid : Prop := rostWatchersRow.holds Try.pinned (OpenSpec.ofChange rostWatchersSpec)

/-- ITS FALSE NEIGHBOUR: 'it returns false'. Refute it at one input. -/
def rostWatchersWrong : ChangeSpec := { name := "rostWatchers", fn := fun _ => fun
  | [d1, d2, d3] => { results := [.lit (.bool false)], args := [d1, d2, d3] }
  | _ => none }
def RostWatchersWrongFalsely : Prop := rostWatchersRow.holds Try.pinned (OpenSpec.ofChange rostWatchersWrong)

/-- 'rollcalllaw08.RostSides': WHATEVER THE INPUT: true; the input reads as it did. -/
def rostSidesSpec : ChangeSpec := { name := "rostSides", fn := fun _ => fun
  | [d] => { results := [.lit (.bool true)], args := [d] }
  | _ => none }
def rostSidesRow : OpenClaim := { program := "ytpmafghknafhaaa", sum := "694a28f5ad7f6fcc6c56cabaf7c3b4baa655b8b692775d1400fa9ed0764f6ea6", func := "rollcall/rollcalllaw08.RostSides", spec := "rostSides", inPlace := ["internal/bytealg.abigen_runtime_cmpstring", "slices.overlaps[rollcall/api.Entry]"], unfollowed := true, recurses := true, plainKeys := false, apart := false }
def RostSidesSaid : Prop := rostSidesRow.holds Try.pinned (OpenSpec.ofChange rostSidesSpec)

/-- ITS FALSE NEIGHBOUR: 'it returns false'. Refute it at one input. -/
def rostSidesWrong : ChangeSpec := { name := "rostSides", fn := fun _ => fun
  | [d] => { results := [.lit (.bool false)], args := [d] }
  | _ => none }
def RostSidesWrongFalsely : Prop := rostSidesRow.holds Try.pinned (OpenSpec.ofChange rostSidesWrong)

/-- 'rollcalllaw14.StateParts': WHATEVER THE INPUT: true; the input reads as it did. -/
def statePartsSpec : ChangeSpec := { name := "stateParts", fn := fun _ => fun
  | [d1, d2] => { results := [.lit (.bool true)], args := [d1, d2] }
  | _ => none }
def statePartsRow : OpenClaim := { program := "ytpmafghknafhaaa", sum := "694a28f5ad7f6fcc6c56cabaf7c3b4baa655b8b692775d1400fa9ed0764f6ea6", func := "rollcall/rollcalllaw14.StateParts", spec := "stateParts", inPlace := ["internal/bytealg.abigen_runtime_cmpstring", "slices.overlaps[rollcall/api.Entry]", "slices.overlaps[rollcall/api.Session]"], unfollowed := true, recurses := true, plainKeys := false, apart := false }
def StatePartsSaid : Prop := statePartsRow.holds Try.pinned (OpenSpec.ofChange statePartsSpec)

/-- ITS FALSE NEIGHBOUR: 'it returns false'. Refute it at one input. -/
def statePartsWrong : ChangeSpec := { name := "stateParts", fn := fun _ => fun
  | [d1, d2] => { results := [.lit (.bool false)], args := [d1, d2] }
  | _ => none }
def StatePartsWrongFalsely : Prop := statePartsRow.holds Try.pinned (OpenSpec.ofChange statePartsWrong)

/- THE SECOND FORM. 'bulk': how many values and letters a reading holds, each counted each time it is reached (what is shared counts as often as it is met; a slice's spare places count too). A statement '..UptoSaid' is the law's where the arguments, and the package variables that the reading takes, are together of bulk at most 1048576: NARROWER than '..Said'. Prove '..Said' where nothing that the law and all that it calls make is longer than what came in: it says more and counts as full. Else prove '..UptoSaid'. A law counts once. -/
mutual
def uptoBulk {H : Type} : DataW H → Nat
  | .lit (.string bytes) => bytes.length + 1
  | .lit _ => 1
  | .nil => 1
  | .ptr d => uptoBulk d + 1
  | .slice elems spare => uptoBulkAll elems + uptoBulkAll spare + 1
  | .agg parts => uptoBulkAll parts + 1
  | .iface _ d => uptoBulk d + 1
  | .map entries => uptoBulkEntries entries + 1
  | .held _ => 1
def uptoBulkAll {H : Type} : List (DataW H) → Nat
  | [] => 0
  | d :: r => uptoBulk d + uptoBulkAll r
def uptoBulkEntries {H : Type} : List (Lit × DataW H) → Nat
  | [] => 0
  | x :: r => uptoBulkEntry x + uptoBulkEntries r
def uptoBulkEntry {H : Type} : Lit × DataW H → Nat
  | (.string bytes, d) => bytes.length + uptoBulk d + 1
  | (_, d) => uptoBulk d + 1
 end
def uptoSmall : (H : Type) → List (DataW H) → Bool := fun _ ds => decide (uptoBulkAll ds ≤ 1048576)
def OpenSpec.upto (s : _root_.Go.ChangeSpec) : _root_.Go.OpenSpec := { _root_.Go.OpenSpec.ofChange s with cond := some uptoSmall }

/-- 'rollcalllaw08.RostTells', WHERE WHAT IT READS IS OF BULK AT MOST 1048576: true; the input reads as it did. -/
def rostTellsUptoRow : OpenClaim := { program := "ytpmafghknafhaaa", sum := "694a28f5ad7f6fcc6c56cabaf7c3b4baa655b8b692775d1400fa9ed0764f6ea6", func := "rollcall/rollcalllaw08.RostTells", spec := "rostTells", inPlace := ["internal/bytealg.abigen_runtime_cmpstring", "slices.overlaps[rollcall/api.Entry]"], unfollowed := true, recurses := true, plainKeys := false, apart := false, narrowed := true }
def RostTellsUptoSaid : Prop := rostTellsUptoRow.holds Try.pinned (OpenSpec.upto rostTellsSpec)

/-- 'rollcalllaw08.RostDoes', WHERE WHAT IT READS IS OF BULK AT MOST 1048576: true; the input reads as it did. -/
def rostDoesUptoRow : OpenClaim := { program := "ytpmafghknafhaaa", sum := "694a28f5ad7f6fcc6c56cabaf7c3b4baa655b8b692775d1400fa9ed0764f6ea6", func := "rollcall/rollcalllaw08.RostDoes", spec := "rostDoes", inPlace := ["internal/bytealg.abigen_runtime_cmpstring", "slices.overlaps[rollcall/api.Entry]"], unfollowed := true, recurses := true, plainKeys := false, apart := false, narrowed := true }
def RostDoesUptoSaid : Prop := rostDoesUptoRow.holds Try.pinned (OpenSpec.upto rostDoesSpec)

/-- 'rollcalllaw08.RostMay', WHERE WHAT IT READS IS OF BULK AT MOST 1048576: true; the input reads as it did. -/
def rostMayUptoRow : OpenClaim := { program := "ytpmafghknafhaaa", sum := "694a28f5ad7f6fcc6c56cabaf7c3b4baa655b8b692775d1400fa9ed0764f6ea6", func := "rollcall/rollcalllaw08.RostMay", spec := "rostMay", inPlace := ["internal/bytealg.abigen_runtime_cmpstring", "slices.overlaps[rollcall/api.Entry]"], unfollowed := true, recurses := true, plainKeys := false, apart := false, narrowed := true }
def RostMayUptoSaid : Prop := rostMayUptoRow.holds Try.pinned (OpenSpec.upto rostMaySpec)

/-- 'rollcalllaw08.RostOthers', WHERE WHAT IT READS IS OF BULK AT MOST 1048576: true; the input reads as it did. -/
def rostOthersUptoRow : OpenClaim := { program := "ytpmafghknafhaaa", sum := "694a28f5ad7f6fcc6c56cabaf7c3b4baa655b8b692775d1400fa9ed0764f6ea6", func := "rollcall/rollcalllaw08.RostOthers", spec := "rostOthers", inPlace := ["internal/bytealg.abigen_runtime_cmpstring", "slices.overlaps[rollcall/api.Entry]"], unfollowed := true, recurses := true, plainKeys := false, apart := false, narrowed := true }
def RostOthersUptoSaid : Prop := rostOthersUptoRow.holds Try.pinned (OpenSpec.upto rostOthersSpec)

/-- 'rollcalllaw08.RostWatchers', WHERE WHAT IT READS IS OF BULK AT MOST 1048576: true; the input reads as it did. -/
def rostWatchersUptoRow : OpenClaim := { program := "ytpmafghknafhaaa", sum := "694a28f5ad7f6fcc6c56cabaf7c3b4baa655b8b692775d1400fa9ed0764f6ea6", func := "rollcall/rollcalllaw08.RostWatchers", spec := "rostWatchers", inPlace := ["internal/bytealg.abigen_runtime_cmpstring", "slices.overlaps[rollcall/api.Entry]"], unfollowed := true, recurses := true, plainKeys := false, apart := false, narrowed := true }
def RostWatchersUptoSaid : Prop := rostWatchersUptoRow.holds Try.pinned (OpenSpec.upto rostWatchersSpec)

/-- 'rollcalllaw08.RostSides', WHERE WHAT IT READS IS OF BULK AT MOST 1048576: true; the input reads as it did. -/
def rostSidesUptoRow : OpenClaim := { program := "ytpmafghknafhaaa", sum := "694a28f5ad7f6fcc6c56cabaf7c3b4baa655b8b692775d1400fa9ed0764f6ea6", func := "rollcall/rollcalllaw08.RostSides", spec := "rostSides", inPlace := ["internal/bytealg.abigen_runtime_cmpstring", "slices.overlaps[rollcall/api.Entry]"], unfollowed := true, recurses := true, plainKeys := false, apart := false, narrowed := true }
def RostSidesUptoSaid : Prop := rostSidesUptoRow.holds Try.pinned (OpenSpec.upto rostSidesSpec)

/-- 'rollcalllaw14.StateParts', WHERE WHAT IT READS IS OF BULK AT MOST 1048576: true; the input reads as it did. -/
def statePartsUptoRow : OpenClaim := { program := "ytpmafghknafhaaa", sum := "694a28f5ad7f6fcc6c56cabaf7c3b4baa655b8b692775d1400fa9ed0764f6ea6", func := "rollcall/rollcalllaw14.StateParts", spec := "stateParts", inPlace := ["internal/bytealg.abigen_runtime_cmpstring", "slices.overlaps[rollcall/api.Entry]", "slices.overlaps[rollcall/api.Session]"], unfollowed := true, recurses := true, plainKeys := false, apart := false, narrowed := true }
def StatePartsUptoSaid : Prop := statePartsUptoRow.holds Try.pinned (OpenSpec.upto statePartsSpec)

end Rows
end Go.Proofs.Ytpmafghknafhaaa
