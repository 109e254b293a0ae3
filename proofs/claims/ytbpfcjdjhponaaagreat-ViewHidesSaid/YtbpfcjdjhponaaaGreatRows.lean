/-
  No cell of these rows narrows 'for every input' (looked for: loops, veiled, ifaces, maps, wideKeys, modest, calm, conditions, laid).
  DERIVED. THE GIVEN ROWS OF THIS SEAT. 6 by the template 'for every input the law returns true; each argument reads behind the call as it read before'; 0 by the template 'total and deterministic' (their statements: YtbpfcjdjhponaaaGreatTotals.lean).
  GIVEN WITH THE SEED: the statements are not yours to turn. If you find one false, say at which input.
  Laid BY PROGRAM, IN A SANDBOX (cutbox-rows.mjs): the forced cells as the released guide's own fill.sh prints them over the translation cfecb3c4ffb23382… (all of the seat's roots in one cut). By AI agents, Wed Nov 11 2026. No macro, syntax, notation, axiom, sorry.
-/
import Derived.Test.YtbpfcjdjhponaaaGreatChecked
import GoSem.Claim
import GoSem.ClaimJoined
import GoSem.ClaimMapViews
import Derived.JoinedTies
import Derived.KernelRfl
namespace Go.Proofs.YtbpfcjdjhponaaaGreat
/- THE CELL 'sum', in the pinned program and in every row, IS THE sha256 OF THE DUMP (.gsa) THAT YtbpfcjdjhponaaaGreatProg.lean LOADS. Nothing in Lean hashes anything: it is a label: what it is worth is what the hold of that sum in a sandbox is worth. -/
noncomputable def Tryz.pinned : Pinned := { name := "ytbpfcjdjhponaaagreat", sum := "cfecb3c4ffb233827fc77acae077bfdd3f1b8c7bb37844c2371deb58546fb89b", checked := Tryz.checked }
namespace Rows
def none {H : Type} : Left H := { results := [], args := [] }

/-- 'rollcalllaw23.ScriptApplies': WHATEVER THE INPUT: true; the input reads as it did. -/
def scriptAppliesSpec : ChangeSpec := { name := "scriptApplies", fn := fun _ => fun
  | [d1, d2] => { results := [.lit (.bool true)], args := [d1, d2] }
  | _ => none }
def scriptAppliesRow : OpenClaim := { program := "ytbpfcjdjhponaaagreat", sum := "cfecb3c4ffb233827fc77acae077bfdd3f1b8c7bb37844c2371deb58546fb89b", func := "rollcall/rollcalllaw23.ScriptApplies", spec := "scriptApplies", inPlace := ["internal/abi.NoEscape", "internal/bytealg.abigen_runtime_cmpstring", "slices.overlaps[rollcall/api.Entry]", "slices.overlaps[rollcall/api.Session]"], unfollowed := true, recurses := true, apart := false }
def ScriptAppliesSaid : Prop := scriptAppliesRow.holds Tryz.pinned (OpenSpec.ofChange scriptAppliesSpec)

/-- ITS FALSE NEIGHBOUR: 'it returns false'. Refute it at one input. -/
def scriptAppliesWrong : ChangeSpec := { name := "scriptApplies", fn := fun _ => fun
  | [d1, d2] => { results := [.lit (.bool false)], args := [d1, d2] }
  | _ => none }
def ScriptAppliesWrongFalsely : Prop := scriptAppliesRow.holds Tryz.pinned (OpenSpec.ofChange scriptAppliesWrong)

/-- 'rollcalllaw15.ViewTells': WHATEVER THE INPUT: true; the input reads as it did. -/
def viewTellsSpec : ChangeSpec := { name := "viewTells", fn := fun _ => fun
  | [d1, d2, d3] => { results := [.lit (.bool true)], args := [d1, d2, d3] }
  | _ => none }
def viewTellsRow : OpenClaim := { program := "ytbpfcjdjhponaaagreat", sum := "cfecb3c4ffb233827fc77acae077bfdd3f1b8c7bb37844c2371deb58546fb89b", func := "rollcall/rollcalllaw15.ViewTells", spec := "viewTells", inPlace := ["internal/bytealg.abigen_runtime_cmpstring"], unfollowed := true, recurses := true, apart := false }
def ViewTellsSaid : Prop := viewTellsRow.holds Tryz.pinned (OpenSpec.ofChange viewTellsSpec)

/-- ITS FALSE NEIGHBOUR: 'it returns false'. Refute it at one input. -/
def viewTellsWrong : ChangeSpec := { name := "viewTells", fn := fun _ => fun
  | [d1, d2, d3] => { results := [.lit (.bool false)], args := [d1, d2, d3] }
  | _ => none }
def ViewTellsWrongFalsely : Prop := viewTellsRow.holds Tryz.pinned (OpenSpec.ofChange viewTellsWrong)

/-- 'rollcalllaw15.ViewRows': WHATEVER THE INPUT: true; the input reads as it did. -/
def viewRowsSpec : ChangeSpec := { name := "viewRows", fn := fun _ => fun
  | [d1, d2, d3] => { results := [.lit (.bool true)], args := [d1, d2, d3] }
  | _ => none }
def viewRowsRow : OpenClaim := { program := "ytbpfcjdjhponaaagreat", sum := "cfecb3c4ffb233827fc77acae077bfdd3f1b8c7bb37844c2371deb58546fb89b", func := "rollcall/rollcalllaw15.ViewRows", spec := "viewRows", inPlace := ["internal/bytealg.abigen_runtime_cmpstring"], unfollowed := true, recurses := true, apart := false }
def ViewRowsSaid : Prop := viewRowsRow.holds Tryz.pinned (OpenSpec.ofChange viewRowsSpec)

/-- ITS FALSE NEIGHBOUR: 'it returns false'. Refute it at one input. -/
def viewRowsWrong : ChangeSpec := { name := "viewRows", fn := fun _ => fun
  | [d1, d2, d3] => { results := [.lit (.bool false)], args := [d1, d2, d3] }
  | _ => none }
def ViewRowsWrongFalsely : Prop := viewRowsRow.holds Tryz.pinned (OpenSpec.ofChange viewRowsWrong)

/-- 'rollcalllaw15.ViewTouches': WHATEVER THE INPUT: true; the input reads as it did. -/
def viewTouchesSpec : ChangeSpec := { name := "viewTouches", fn := fun _ => fun
  | [d1, d2, d3] => { results := [.lit (.bool true)], args := [d1, d2, d3] }
  | _ => none }
def viewTouchesRow : OpenClaim := { program := "ytbpfcjdjhponaaagreat", sum := "cfecb3c4ffb233827fc77acae077bfdd3f1b8c7bb37844c2371deb58546fb89b", func := "rollcall/rollcalllaw15.ViewTouches", spec := "viewTouches", inPlace := ["internal/bytealg.abigen_runtime_cmpstring", "slices.overlaps[rollcall/api.Entry]", "slices.overlaps[rollcall/api.Session]"], unfollowed := true, recurses := true, apart := false }
def ViewTouchesSaid : Prop := viewTouchesRow.holds Tryz.pinned (OpenSpec.ofChange viewTouchesSpec)

/-- ITS FALSE NEIGHBOUR: 'it returns false'. Refute it at one input. -/
def viewTouchesWrong : ChangeSpec := { name := "viewTouches", fn := fun _ => fun
  | [d1, d2, d3] => { results := [.lit (.bool false)], args := [d1, d2, d3] }
  | _ => none }
def ViewTouchesWrongFalsely : Prop := viewTouchesRow.holds Tryz.pinned (OpenSpec.ofChange viewTouchesWrong)

/-- 'rollcalllaw15.ViewHides': WHATEVER THE INPUT: true; the input reads as it did. -/
def viewHidesSpec : ChangeSpec := { name := "viewHides", fn := fun _ => fun
  | [d1, d2, d3] => { results := [.lit (.bool true)], args := [d1, d2, d3] }
  | _ => none }
def viewHidesRow : OpenClaim := { program := "ytbpfcjdjhponaaagreat", sum := "cfecb3c4ffb233827fc77acae077bfdd3f1b8c7bb37844c2371deb58546fb89b", func := "rollcall/rollcalllaw15.ViewHides", spec := "viewHides", inPlace := ["internal/bytealg.abigen_runtime_cmpstring", "slices.overlaps[rollcall/api.Entry]", "slices.overlaps[rollcall/api.Session]"], unfollowed := true, recurses := true, apart := false }
def ViewHidesSaid : Prop := viewHidesRow.holds Tryz.pinned (OpenSpec.ofChange viewHidesSpec)

/-- ITS FALSE NEIGHBOUR: 'it returns false'. Refute it at one input. -/
def viewHidesWrong : ChangeSpec := { name := "viewHides", fn := fun _ => fun
  | [d1, d2, d3] => { results := [.lit (.bool false)], args := [d1, d2, d3] }
  | _ => none }
def ViewHidesWrongFalsely : Prop := viewHidesRow.holds Tryz.pinned (OpenSpec.ofChange viewHidesWrong)

/-- 'rollcalllaw15.ViewBlocks': WHATEVER THE INPUT: true; the input reads as it did. -/
def viewBlocksSpec : ChangeSpec := { name := "viewBlocks", fn := fun _ => fun
  | [d1, d2] => { results := [.lit (.bool true)], args := [d1, d2] }
  | _ => none }
def viewBlocksRow : OpenClaim := { program := "ytbpfcjdjhponaaagreat", sum := "cfecb3c4ffb233827fc77acae077bfdd3f1b8c7bb37844c2371deb58546fb89b", func := "rollcall/rollcalllaw15.ViewBlocks", spec := "viewBlocks", inPlace := ["internal/bytealg.abigen_runtime_cmpstring", "slices.overlaps[rollcall/api.Entry]", "slices.overlaps[rollcall/api.Session]"], unfollowed := true, recurses := true, apart := false }
def ViewBlocksSaid : Prop := viewBlocksRow.holds Tryz.pinned (OpenSpec.ofChange viewBlocksSpec)

/-- ITS FALSE NEIGHBOUR: 'it returns false'. Refute it at one input. -/
def viewBlocksWrong : ChangeSpec := { name := "viewBlocks", fn := fun _ => fun
  | [d1, d2] => { results := [.lit (.bool false)], args := [d1, d2] }
  | _ => none }
def ViewBlocksWrongFalsely : Prop := viewBlocksRow.holds Tryz.pinned (OpenSpec.ofChange viewBlocksWrong)

/- THE SECOND FORM. 'bulk': how many values and letters a reading holds, each counted each time it is reached (what is shared counts as often as it is met; a slice's spare places count too). A statement '..UptoSaid' is the law's where the arguments, and the package variables that the reading takes, are together of bulk at most 1048576: NARROWER than '..Said'. Prove '..Said' where nothing that the law and all that it calls make is longer than what came in: it says more and counts as full. Else prove '..UptoSaid'. A law counts once. -/
mutual
def uptoBulk {H : Type} : DataW H → Nat
  | .lit (.string bytes) => bytes.length + 1
  | .lit _ => 1
  | .nil => 1
  | .ptr d => uptoBulk d + 1
  | .slice elems spare => uptoBulkAll elems + uptoBulkAll spare + 1
  | .agg parts => uptoBulkAll parts + 1
  | .iface _ d => uptoBulk d + 1
  | .map entries => uptoBulkEntries entries + 1
  | .held _ => 1
def uptoBulkAll {H : Type} : List (DataW H) → Nat
  | [] => 0
  | d :: r => uptoBulk d + uptoBulkAll r
def uptoBulkEntries {H : Type} : List (Lit × DataW H) → Nat
  | [] => 0
  | x :: r => uptoBulkEntry x + uptoBulkEntries r
def uptoBulkEntry {H : Type} : Lit × DataW H → Nat
  | (.string bytes, d) => bytes.length + uptoBulk d + 1
  | (_, d) => uptoBulk d + 1
 end
def uptoSmall : (H : Type) → List (DataW H) → Bool := fun _ ds => decide (uptoBulkAll ds ≤ 1048576)
def OpenSpec.upto (s : _root_.Go.ChangeSpec) : _root_.Go.OpenSpec := { _root_.Go.OpenSpec.ofChange s with cond := some uptoSmall }

/-- 'rollcalllaw23.ScriptApplies', WHERE WHAT IT READS IS OF BULK AT MOST 1048576: true; the input reads as it did. -/
def scriptAppliesUptoRow : OpenClaim := { program := "ytbpfcjdjhponaaagreat", sum := "cfecb3c4ffb233827fc77acae077bfdd3f1b8c7bb37844c2371deb58546fb89b", func := "rollcall/rollcalllaw23.ScriptApplies", spec := "scriptApplies", inPlace := ["internal/abi.NoEscape", "internal/bytealg.abigen_runtime_cmpstring", "slices.overlaps[rollcall/api.Entry]", "slices.overlaps[rollcall/api.Session]"], unfollowed := true, recurses := true, apart := false, narrowed := true }
def ScriptAppliesUptoSaid : Prop := scriptAppliesUptoRow.holds Tryz.pinned (OpenSpec.upto scriptAppliesSpec)

/-- 'rollcalllaw15.ViewTells', WHERE WHAT IT READS IS OF BULK AT MOST 1048576: true; the input reads as it did. -/
def viewTellsUptoRow : OpenClaim := { program := "ytbpfcjdjhponaaagreat", sum := "cfecb3c4ffb233827fc77acae077bfdd3f1b8c7bb37844c2371deb58546fb89b", func := "rollcall/rollcalllaw15.ViewTells", spec := "viewTells", inPlace := ["internal/bytealg.abigen_runtime_cmpstring"], unfollowed := true, recurses := true, apart := false, narrowed := true }
def ViewTellsUptoSaid : Prop := viewTellsUptoRow.holds Tryz.pinned (OpenSpec.upto viewTellsSpec)

/-- 'rollcalllaw15.ViewRows', WHERE WHAT IT READS IS OF BULK AT MOST 1048576: true; the input reads as it did. -/
def viewRowsUptoRow : OpenClaim := { program := "ytbpfcjdjhponaaagreat", sum := "cfecb3c4ffb233827fc77acae077bfdd3f1b8c7bb37844c2371deb58546fb89b", func := "rollcall/rollcalllaw15.ViewRows", spec := "viewRows", inPlace := ["internal/bytealg.abigen_runtime_cmpstring"], unfollowed := true, recurses := true, apart := false, narrowed := true }
def ViewRowsUptoSaid : Prop := viewRowsUptoRow.holds Tryz.pinned (OpenSpec.upto viewRowsSpec)

/-- 'rollcalllaw15.ViewTouches', WHERE WHAT IT READS IS OF BULK AT MOST 1048576: true; the input reads as it did. -/
def viewTouchesUptoRow : OpenClaim := { program := "ytbpfcjdjhponaaagreat", sum := "cfecb3c4ffb233827fc77acae077bfdd3f1b8c7bb37844c2371deb58546fb89b", func := "rollcall/rollcalllaw15.ViewTouches", spec := "viewTouches", inPlace := ["internal/bytealg.abigen_runtime_cmpstring", "slices.overlaps[rollcall/api.Entry]", "slices.overlaps[rollcall/api.Session]"], unfollowed := true, recurses := true, apart := false, narrowed := true }
def ViewTouchesUptoSaid : Prop := viewTouchesUptoRow.holds Tryz.pinned (OpenSpec.upto viewTouchesSpec)

/-- 'rollcalllaw15.ViewHides', WHERE WHAT IT READS IS OF BULK AT MOST 1048576: true; the input reads as it did. -/
def viewHidesUptoRow : OpenClaim := { program := "ytbpfcjdjhponaaagreat", sum := "cfecb3c4ffb233827fc77acae077bfdd3f1b8c7bb37844c2371deb58546fb89b", func := "rollcall/rollcalllaw15.ViewHides", spec := "viewHides", inPlace := ["internal/bytealg.abigen_runtime_cmpstring", "slices.overlaps[rollcall/api.Entry]", "slices.overlaps[rollcall/api.Session]"], unfollowed := true, recurses := true, apart := false, narrowed := true }
def ViewHidesUptoSaid : Prop := viewHidesUptoRow.holds Tryz.pinned (OpenSpec.upto viewHidesSpec)

/-- 'rollcalllaw15.ViewBlocks', WHERE WHAT IT READS IS OF BULK AT MOST 1048576: true; the input reads as it did. -/
def viewBlocksUptoRow : OpenClaim := { program := "ytbpfcjdjhponaaagreat", sum := "cfecb3c4ffb233827fc77acae077bfdd3f1b8c7bb37844c2371deb58546fb89b", func := "rollcall/rollcalllaw15.ViewBlocks", spec := "viewBlocks", inPlace := ["internal/bytealg.abigen_runtime_cmpstring", "slices.overlaps[rollcall/api.Entry]", "slices.overlaps[rollcall/api.Session]"], unfollowed := true, recurses := true, apart := false, narrowed := true }
def ViewBlocksUptoSaid : Prop := viewBlocksUptoRow.holds Tryz.pinned (OpenSpec.upto viewBlocksSpec)

end Rows
end Go.Proofs.YtbpfcjdjhponaaaGreat
