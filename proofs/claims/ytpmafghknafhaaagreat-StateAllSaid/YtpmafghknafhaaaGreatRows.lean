/-
  No cell of these rows narrows 'for every input' (looked for: loops, veiled, ifaces, maps, wideKeys, modest, calm, conditions, laid).
  DERIVED. THE GIVEN ROWS OF THIS SEAT. 4 by the template 'for every input the law returns true; each argument reads behind the call as it read before'; 0 by the template 'total and deterministic' (their statements: YtpmafghknafhaaaGreatTotals.lean).
  GIVEN WITH THE SEED: the statements are not yours to turn. If you find one false, say at which input.
  Laid BY PROGRAM, IN A SANDBOX (cutbox-rows.mjs): the forced cells as the released guide's own fill.sh prints them over the translation 15d0d6bf01176f3c… (all of the seat's roots in one cut). By AI agents, Wed Nov 11 2026. No macro, syntax, notation, axiom, sorry.
-/
import Derived.Test.YtpmafghknafhaaaGreatChecked
import GoSem.Claim
import GoSem.ClaimJoined
import GoSem.ClaimMapViews
import Derived.JoinedTies
import Derived.KernelRfl
namespace Go.Proofs.YtpmafghknafhaaaGreat
/- THE CELL 'sum', in the pinned program and in every row, IS THE sha256 OF THE DUMP (.gsa) THAT YtpmafghknafhaaaGreatProg.lean LOADS. Nothing in Lean hashes anything: it is a label: what it is worth is what the hold of that sum in a sandbox is worth. -/
noncomputable def Tryz.pinned : Pinned := { name := "ytpmafghknafhaaagreat", sum := "15d0d6bf01176f3cd5dcf8ec1ce529eab6cf5c5b645f6164b7002dd50abdf438", checked := Tryz.checked }
namespace Rows
def none {H : Type} : Left H := { results := [], args := [] }

/-- 'rollcalllaw14.StateApplies': WHATEVER THE INPUT: true; the input reads as it did. -/
def stateAppliesSpec : ChangeSpec := { name := "stateApplies", fn := fun _ => fun
  | [d1, d2, d3] => { results := [.lit (.bool true)], args := [d1, d2, d3] }
  | _ => none }
def stateAppliesRow : OpenClaim := { program := "ytpmafghknafhaaagreat", sum := "15d0d6bf01176f3cd5dcf8ec1ce529eab6cf5c5b645f6164b7002dd50abdf438", func := "rollcall/rollcalllaw14.StateApplies", spec := "stateApplies", inPlace := ["internal/bytealg.abigen_runtime_cmpstring", "slices.overlaps[rollcall/api.Entry]", "slices.overlaps[rollcall/api.Session]"], unfollowed := true, recurses := true, apart := false }
def StateAppliesSaid : Prop := stateAppliesRow.holds Tryz.pinned (OpenSpec.ofChange stateAppliesSpec)

/-- ITS FALSE NEIGHBOUR: 'it returns false'. Refute it at one input. -/
def stateAppliesWrong : ChangeSpec := { name := "stateApplies", fn := fun _ => fun
  | [d1, d2, d3] => { results := [.lit (.bool false)], args := [d1, d2, d3] }
  | _ => none }
def StateAppliesWrongFalsely : Prop := stateAppliesRow.holds Tryz.pinned (OpenSpec.ofChange stateAppliesWrong)

/-- 'rollcalllaw14.StateAll': WHATEVER THE INPUT: true; the input reads as it did. -/
def stateAllSpec : ChangeSpec := { name := "stateAll", fn := fun _ => fun
  | [d1, d2] => { results := [.lit (.bool true)], args := [d1, d2] }
  | _ => none }
def stateAllRow : OpenClaim := { program := "ytpmafghknafhaaagreat", sum := "15d0d6bf01176f3cd5dcf8ec1ce529eab6cf5c5b645f6164b7002dd50abdf438", func := "rollcall/rollcalllaw14.StateAll", spec := "stateAll", inPlace := ["internal/bytealg.abigen_runtime_cmpstring", "slices.overlaps[rollcall/api.Entry]", "slices.overlaps[rollcall/api.Session]"], unfollowed := true, recurses := true, apart := false }
def StateAllSaid : Prop := stateAllRow.holds Tryz.pinned (OpenSpec.ofChange stateAllSpec)

/-- ITS FALSE NEIGHBOUR: 'it returns false'. Refute it at one input. -/
def stateAllWrong : ChangeSpec := { name := "stateAll", fn := fun _ => fun
  | [d1, d2] => { results := [.lit (.bool false)], args := [d1, d2] }
  | _ => none }
def StateAllWrongFalsely : Prop := stateAllRow.holds Tryz.pinned (OpenSpec.ofChange stateAllWrong)

/-- 'rollcalllaw14.StateMay': WHATEVER THE INPUT: true; the input reads as it did. -/
def stateMaySpec : ChangeSpec := { name := "stateMay", fn := fun _ => fun
  | [d1, d2, d3] => { results := [.lit (.bool true)], args := [d1, d2, d3] }
  | _ => none }
def stateMayRow : OpenClaim := { program := "ytpmafghknafhaaagreat", sum := "15d0d6bf01176f3cd5dcf8ec1ce529eab6cf5c5b645f6164b7002dd50abdf438", func := "rollcall/rollcalllaw14.StateMay", spec := "stateMay", inPlace := ["internal/bytealg.abigen_runtime_cmpstring", "slices.overlaps[rollcall/api.Entry]", "slices.overlaps[rollcall/api.Session]"], unfollowed := true, recurses := true, apart := false }
def StateMaySaid : Prop := stateMayRow.holds Tryz.pinned (OpenSpec.ofChange stateMaySpec)

/-- ITS FALSE NEIGHBOUR: 'it returns false'. Refute it at one input. -/
def stateMayWrong : ChangeSpec := { name := "stateMay", fn := fun _ => fun
  | [d1, d2, d3] => { results := [.lit (.bool false)], args := [d1, d2, d3] }
  | _ => none }
def StateMayWrongFalsely : Prop := stateMayRow.holds Tryz.pinned (OpenSpec.ofChange stateMayWrong)

/-- 'rollcalllaw14.StateTwo': WHATEVER THE INPUT: true; the input reads as it did. -/
def stateTwoSpec : ChangeSpec := { name := "stateTwo", fn := fun _ => fun
  | [d1, d2, d3] => { results := [.lit (.bool true)], args := [d1, d2, d3] }
  | _ => none }
def stateTwoRow : OpenClaim := { program := "ytpmafghknafhaaagreat", sum := "15d0d6bf01176f3cd5dcf8ec1ce529eab6cf5c5b645f6164b7002dd50abdf438", func := "rollcall/rollcalllaw14.StateTwo", spec := "stateTwo", inPlace := ["internal/bytealg.abigen_runtime_cmpstring", "slices.overlaps[rollcall/api.Entry]", "slices.overlaps[rollcall/api.Session]"], unfollowed := true, recurses := true, apart := false }
def StateTwoSaid : Prop := stateTwoRow.holds Tryz.pinned (OpenSpec.ofChange stateTwoSpec)

/-- ITS FALSE NEIGHBOUR: 'it returns false'. Refute it at one input. -/
def stateTwoWrong : ChangeSpec := { name := "stateTwo", fn := fun _ => fun
  | [d1, d2, d3] => { results := [.lit (.bool false)], args := [d1, d2, d3] }
  | _ => none }
def StateTwoWrongFalsely : Prop := stateTwoRow.holds Tryz.pinned (OpenSpec.ofChange stateTwoWrong)

/- THE SECOND FORM. 'bulk': how many values and letters a reading holds, each counted each time it is reached (what is shared counts as often as it is met; a slice's spare places count too). A statement '..UptoSaid' is the law's where the arguments, and the package variables that the reading takes, are together of bulk at most 1048576: NARROWER than '..Said'. Prove '..Said' where nothing that the law and all that it calls make is longer than what came in: it says more and counts as full. Else prove '..UptoSaid'. A law counts once. -/
mutual
def uptoBulk {H : Type} : DataW H → Nat
  | .lit (.string bytes) => bytes.length + 1
  | .lit _ => 1
  | .nil => 1
  | .ptr d => uptoBulk d + 1
  | .slice elems spare => uptoBulkAll elems + uptoBulkAll spare + 1
  | .agg parts => uptoBulkAll parts + 1
  | .iface _ d => uptoBulk d + 1
  | .map entries => uptoBulkEntries entries + 1
  | .held _ => 1
def uptoBulkAll {H : Type} : List (DataW H) → Nat
  | [] => 0
  | d :: r => uptoBulk d + uptoBulkAll r
def uptoBulkEntries {H : Type} : List (Lit × DataW H) → Nat
  | [] => 0
  | x :: r => uptoBulkEntry x + uptoBulkEntries r
def uptoBulkEntry {H : Type} : Lit × DataW H → Nat
  | (.string bytes, d) => bytes.length + uptoBulk d + 1
  | (_, d) => uptoBulk d + 1
 end
def uptoSmall : (H : Type) → List (DataW H) → Bool := fun _ ds => decide (uptoBulkAll ds ≤ 1048576)
def OpenSpec.upto (s : _root_.Go.ChangeSpec) : _root_.Go.OpenSpec := { _root_.Go.OpenSpec.ofChange s with cond := some uptoSmall }

/-- 'rollcalllaw14.StateApplies', WHERE WHAT IT READS IS OF BULK AT MOST 1048576: true; the input reads as it did. -/
def stateAppliesUptoRow : OpenClaim := { program := "ytpmafghknafhaaagreat", sum := "15d0d6bf01176f3cd5dcf8ec1ce529eab6cf5c5b645f6164b7002dd50abdf438", func := "rollcall/rollcalllaw14.StateApplies", spec := "stateApplies", inPlace := ["internal/bytealg.abigen_runtime_cmpstring", "slices.overlaps[rollcall/api.Entry]", "slices.overlaps[rollcall/api.Session]"], unfollowed := true, recurses := true, apart := false, narrowed := true }
def StateAppliesUptoSaid : Prop := stateAppliesUptoRow.holds Tryz.pinned (OpenSpec.upto stateAppliesSpec)

/-- 'rollcalllaw14.StateAll', WHERE WHAT IT READS IS OF BULK AT MOST 1048576: true; the input reads as it did. -/
def stateAllUptoRow : OpenClaim := { program := "ytpmafghknafhaaagreat", sum := "15d0d6bf01176f3cd5dcf8ec1ce529eab6cf5c5b645f6164b7002dd50abdf438", func := "rollcall/rollcalllaw14.StateAll", spec := "stateAll", inPlace := ["internal/bytealg.abigen_runtime_cmpstring", "slices.overlaps[rollcall/api.Entry]", "slices.overlaps[rollcall/api.Session]"], unfollowed := true, recurses := true, apart := false, narrowed := true }
def StateAllUptoSaid : Prop := stateAllUptoRow.holds Tryz.pinned (OpenSpec.upto stateAllSpec)

/-- 'rollcalllaw14.StateMay', WHERE WHAT IT READS IS OF BULK AT MOST 1048576: true; the input reads as it did. -/
def stateMayUptoRow : OpenClaim := { program := "ytpmafghknafhaaagreat", sum := "15d0d6bf01176f3cd5dcf8ec1ce529eab6cf5c5b645f6164b7002dd50abdf438", func := "rollcall/rollcalllaw14.StateMay", spec := "stateMay", inPlace := ["internal/bytealg.abigen_runtime_cmpstring", "slices.overlaps[rollcall/api.Entry]", "slices.overlaps[rollcall/api.Session]"], unfollowed := true, recurses := true, apart := false, narrowed := true }
def StateMayUptoSaid : Prop := stateMayUptoRow.holds Tryz.pinned (OpenSpec.upto stateMaySpec)

/-- 'rollcalllaw14.StateTwo', WHERE WHAT IT READS IS OF BULK AT MOST 1048576: true; the input reads as it did. -/
def stateTwoUptoRow : OpenClaim := { program := "ytpmafghknafhaaagreat", sum := "15d0d6bf01176f3cd5dcf8ec1ce529eab6cf5c5b645f6164b7002dd50abdf438", func := "rollcall/rollcalllaw14.StateTwo", spec := "stateTwo", inPlace := ["internal/bytealg.abigen_runtime_cmpstring", "slices.overlaps[rollcall/api.Entry]", "slices.overlaps[rollcall/api.Session]"], unfollowed := true, recurses := true, apart := false, narrowed := true }
def StateTwoUptoSaid : Prop := stateTwoUptoRow.holds Tryz.pinned (OpenSpec.upto stateTwoSpec)

end Rows
end Go.Proofs.YtpmafghknafhaaaGreat
