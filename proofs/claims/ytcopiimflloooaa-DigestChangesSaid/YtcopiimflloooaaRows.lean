/-
  No cell of these rows narrows 'for every input' (looked for: loops, veiled, ifaces, maps, wideKeys, modest, calm, conditions, laid).
  DERIVED. THE GIVEN ROWS OF THIS SEAT. 12 by the template 'for every input the law returns true; each argument reads behind the call as it read before'; 0 by the template 'total and deterministic' (their statements: YtcopiimflloooaaTotals.lean).
  GIVEN WITH THE SEED: the statements are not yours to turn. If you find one false, say at which input.
  Laid BY PROGRAM, IN A SANDBOX (cutbox-rows.mjs): the forced cells as the released guide's own fill.sh prints them over the translation 12720762878433a6… (all of the seat's roots in one cut). By AI agents, Wed Nov 11 2026. No macro, syntax, notation, axiom, sorry.
-/
import Derived.Test.YtcopiimflloooaaChecked
import GoSem.Claim
import GoSem.ClaimJoined
import GoSem.ClaimMapViews
import Derived.JoinedTies
import Derived.KernelRfl
namespace Go.Proofs.Ytcopiimflloooaa
/- THE CELL 'sum', in the pinned program and in every row, IS THE sha256 OF THE DUMP (.gsa) THAT YtcopiimflloooaaProg.lean LOADS. Nothing in Lean hashes anything: it is a label: what it is worth is what the hold of that sum in a sandbox is worth. -/
noncomputable def Try.pinned : Pinned := { name := "ytcopiimflloooaa", sum := "12720762878433a6445a8e127eee91e185fc1a8332ecea738b67e881e7e68b30", checked := Try.checked }
namespace Rows
def none {H : Type} : Left H := { results := [], args := [] }

/-- 'rollcalllaw09.SessTells': WHATEVER THE INPUT: true; the input reads as it did. -/
def sessTellsSpec : ChangeSpec := { name := "sessTells", fn := fun _ => fun
  | [d1, d2] => { results := [.lit (.bool true)], args := [d1, d2] }
  | _ => none }
def sessTellsRow : OpenClaim := { program := "ytcopiimflloooaa", sum := "12720762878433a6445a8e127eee91e185fc1a8332ecea738b67e881e7e68b30", func := "rollcall/rollcalllaw09.SessTells", spec := "sessTells", inPlace := ["internal/bytealg.abigen_runtime_cmpstring", "slices.overlaps[rollcall/api.Session]"], unfollowed := true, recurses := true, apart := false }
def SessTellsSaid : Prop := sessTellsRow.holds Try.pinned (OpenSpec.ofChange sessTellsSpec)

/-- ITS FALSE NEIGHBOUR: 'it returns false'. Refute it at one input. -/
def sessTellsWrong : ChangeSpec := { name := "sessTells", fn := fun _ => fun
  | [d1, d2] => { results := [.lit (.bool false)], args := [d1, d2] }
  | _ => none }
def SessTellsWrongFalsely : Prop := sessTellsRow.holds Try.pinned (OpenSpec.ofChange sessTellsWrong)

/-- 'rollcalllaw09.SessPuts': WHATEVER THE INPUT: true; the input reads as it did. -/
def sessPutsSpec : ChangeSpec := { name := "sessPuts", fn := fun _ => fun
  | [d1, d2] => { results := [.lit (.bool true)], args := [d1, d2] }
  | _ => none }
def sessPutsRow : OpenClaim := { program := "ytcopiimflloooaa", sum := "12720762878433a6445a8e127eee91e185fc1a8332ecea738b67e881e7e68b30", func := "rollcall/rollcalllaw09.SessPuts", spec := "sessPuts", inPlace := ["internal/bytealg.abigen_runtime_cmpstring", "slices.overlaps[rollcall/api.Session]"], unfollowed := true, recurses := true, apart := false }
def SessPutsSaid : Prop := sessPutsRow.holds Try.pinned (OpenSpec.ofChange sessPutsSpec)

/-- ITS FALSE NEIGHBOUR: 'it returns false'. Refute it at one input. -/
def sessPutsWrong : ChangeSpec := { name := "sessPuts", fn := fun _ => fun
  | [d1, d2] => { results := [.lit (.bool false)], args := [d1, d2] }
  | _ => none }
def SessPutsWrongFalsely : Prop := sessPutsRow.holds Try.pinned (OpenSpec.ofChange sessPutsWrong)

/-- 'rollcalllaw09.SessKeeps': WHATEVER THE INPUT: true; the input reads as it did. -/
def sessKeepsSpec : ChangeSpec := { name := "sessKeeps", fn := fun _ => fun
  | [d1, d2, d3] => { results := [.lit (.bool true)], args := [d1, d2, d3] }
  | _ => none }
def sessKeepsRow : OpenClaim := { program := "ytcopiimflloooaa", sum := "12720762878433a6445a8e127eee91e185fc1a8332ecea738b67e881e7e68b30", func := "rollcall/rollcalllaw09.SessKeeps", spec := "sessKeeps", inPlace := ["internal/bytealg.abigen_runtime_cmpstring", "slices.overlaps[rollcall/api.Session]"], unfollowed := true, recurses := true, apart := false }
def SessKeepsSaid : Prop := sessKeepsRow.holds Try.pinned (OpenSpec.ofChange sessKeepsSpec)

/-- ITS FALSE NEIGHBOUR: 'it returns false'. Refute it at one input. -/
def sessKeepsWrong : ChangeSpec := { name := "sessKeeps", fn := fun _ => fun
  | [d1, d2, d3] => { results := [.lit (.bool false)], args := [d1, d2, d3] }
  | _ => none }
def SessKeepsWrongFalsely : Prop := sessKeepsRow.holds Try.pinned (OpenSpec.ofChange sessKeepsWrong)

/-- 'rollcalllaw09.SessAll': WHATEVER THE INPUT: true; the input reads as it did. -/
def sessAllSpec : ChangeSpec := { name := "sessAll", fn := fun _ => fun
  | [d] => { results := [.lit (.bool true)], args := [d] }
  | _ => none }
def sessAllRow : OpenClaim := { program := "ytcopiimflloooaa", sum := "12720762878433a6445a8e127eee91e185fc1a8332ecea738b67e881e7e68b30", func := "rollcall/rollcalllaw09.SessAll", spec := "sessAll", inPlace := ["internal/bytealg.abigen_runtime_cmpstring", "slices.overlaps[rollcall/api.Session]"], unfollowed := true, recurses := true, apart := false }
def SessAllSaid : Prop := sessAllRow.holds Try.pinned (OpenSpec.ofChange sessAllSpec)

/-- ITS FALSE NEIGHBOUR: 'it returns false'. Refute it at one input. -/
def sessAllWrong : ChangeSpec := { name := "sessAll", fn := fun _ => fun
  | [d] => { results := [.lit (.bool false)], args := [d] }
  | _ => none }
def SessAllWrongFalsely : Prop := sessAllRow.holds Try.pinned (OpenSpec.ofChange sessAllWrong)

/-- 'rollcalllaw09.SessTwo': WHATEVER THE INPUT: true; the input reads as it did. -/
def sessTwoSpec : ChangeSpec := { name := "sessTwo", fn := fun _ => fun
  | [d1, d2, d3] => { results := [.lit (.bool true)], args := [d1, d2, d3] }
  | _ => none }
def sessTwoRow : OpenClaim := { program := "ytcopiimflloooaa", sum := "12720762878433a6445a8e127eee91e185fc1a8332ecea738b67e881e7e68b30", func := "rollcall/rollcalllaw09.SessTwo", spec := "sessTwo", inPlace := ["internal/bytealg.abigen_runtime_cmpstring", "slices.overlaps[rollcall/api.Session]"], unfollowed := true, recurses := true, apart := false }
def SessTwoSaid : Prop := sessTwoRow.holds Try.pinned (OpenSpec.ofChange sessTwoSpec)

/-- ITS FALSE NEIGHBOUR: 'it returns false'. Refute it at one input. -/
def sessTwoWrong : ChangeSpec := { name := "sessTwo", fn := fun _ => fun
  | [d1, d2, d3] => { results := [.lit (.bool false)], args := [d1, d2, d3] }
  | _ => none }
def SessTwoWrongFalsely : Prop := sessTwoRow.holds Try.pinned (OpenSpec.ofChange sessTwoWrong)

/-- 'rollcalllaw05.DigestTells': WHATEVER THE INPUT: true; the input reads as it did. -/
def digestTellsSpec : ChangeSpec := { name := "digestTells", fn := fun _ => fun
  | [d] => { results := [.lit (.bool true)], args := [d] }
  | _ => none }
def digestTellsRow : OpenClaim := { program := "ytcopiimflloooaa", sum := "12720762878433a6445a8e127eee91e185fc1a8332ecea738b67e881e7e68b30", func := "rollcall/rollcalllaw05.DigestTells", spec := "digestTells", inPlace := ["internal/bytealg.abigen_runtime_cmpstring", "internal/abi.NoEscape", "slices.overlaps[rollcall/api.Seen]"], unfollowed := true, recurses := true, apart := false }
def DigestTellsSaid : Prop := digestTellsRow.holds Try.pinned (OpenSpec.ofChange digestTellsSpec)

/-- ITS FALSE NEIGHBOUR: 'it returns false'. Refute it at one input. -/
def digestTellsWrong : ChangeSpec := { name := "digestTells", fn := fun _ => fun
  | [d] => { results := [.lit (.bool false)], args := [d] }
  | _ => none }
def DigestTellsWrongFalsely : Prop := digestTellsRow.holds Try.pinned (OpenSpec.ofChange digestTellsWrong)

/-- 'rollcalllaw05.DigestTakes': WHATEVER THE INPUT: true; the input reads as it did. -/
def digestTakesSpec : ChangeSpec := { name := "digestTakes", fn := fun _ => fun
  | [d1, d2] => { results := [.lit (.bool true)], args := [d1, d2] }
  | _ => none }
def digestTakesRow : OpenClaim := { program := "ytcopiimflloooaa", sum := "12720762878433a6445a8e127eee91e185fc1a8332ecea738b67e881e7e68b30", func := "rollcall/rollcalllaw05.DigestTakes", spec := "digestTakes", inPlace := ["internal/bytealg.abigen_runtime_cmpstring", "internal/abi.NoEscape", "slices.overlaps[rollcall/api.Seen]"], unfollowed := true, recurses := true, apart := false }
def DigestTakesSaid : Prop := digestTakesRow.holds Try.pinned (OpenSpec.ofChange digestTakesSpec)

/-- ITS FALSE NEIGHBOUR: 'it returns false'. Refute it at one input. -/
def digestTakesWrong : ChangeSpec := { name := "digestTakes", fn := fun _ => fun
  | [d1, d2] => { results := [.lit (.bool false)], args := [d1, d2] }
  | _ => none }
def DigestTakesWrongFalsely : Prop := digestTakesRow.holds Try.pinned (OpenSpec.ofChange digestTakesWrong)

/-- 'rollcalllaw05.DigestSets': WHATEVER THE INPUT: true; the input reads as it did. -/
def digestSetsSpec : ChangeSpec := { name := "digestSets", fn := fun _ => fun
  | [d1, d2, d3] => { results := [.lit (.bool true)], args := [d1, d2, d3] }
  | _ => none }
def digestSetsRow : OpenClaim := { program := "ytcopiimflloooaa", sum := "12720762878433a6445a8e127eee91e185fc1a8332ecea738b67e881e7e68b30", func := "rollcall/rollcalllaw05.DigestSets", spec := "digestSets", inPlace := ["internal/bytealg.abigen_runtime_cmpstring", "internal/abi.NoEscape", "slices.overlaps[rollcall/api.Seen]"], unfollowed := true, recurses := true, apart := false }
def DigestSetsSaid : Prop := digestSetsRow.holds Try.pinned (OpenSpec.ofChange digestSetsSpec)

/-- ITS FALSE NEIGHBOUR: 'it returns false'. Refute it at one input. -/
def digestSetsWrong : ChangeSpec := { name := "digestSets", fn := fun _ => fun
  | [d1, d2, d3] => { results := [.lit (.bool false)], args := [d1, d2, d3] }
  | _ => none }
def DigestSetsWrongFalsely : Prop := digestSetsRow.holds Try.pinned (OpenSpec.ofChange digestSetsWrong)

/-- 'rollcalllaw05.DigestBack': WHATEVER THE INPUT: true; the input reads as it did. -/
def digestBackSpec : ChangeSpec := { name := "digestBack", fn := fun _ => fun
  | [d1, d2, d3] => { results := [.lit (.bool true)], args := [d1, d2, d3] }
  | _ => none }
def digestBackRow : OpenClaim := { program := "ytcopiimflloooaa", sum := "12720762878433a6445a8e127eee91e185fc1a8332ecea738b67e881e7e68b30", func := "rollcall/rollcalllaw05.DigestBack", spec := "digestBack", inPlace := ["internal/bytealg.abigen_runtime_cmpstring", "internal/abi.NoEscape", "slices.overlaps[rollcall/api.Seen]"], unfollowed := true, recurses := true, apart := false }
def DigestBackSaid : Prop := digestBackRow.holds Try.pinned (OpenSpec.ofChange digestBackSpec)

/-- ITS FALSE NEIGHBOUR: 'it returns false'. Refute it at one input. -/
def digestBackWrong : ChangeSpec := { name := "digestBack", fn := fun _ => fun
  | [d1, d2, d3] => { results := [.lit (.bool false)], args := [d1, d2, d3] }
  | _ => none }
def DigestBackWrongFalsely : Prop := digestBackRow.holds Try.pinned (OpenSpec.ofChange digestBackWrong)

/-- 'rollcalllaw05.DigestChanges': WHATEVER THE INPUT: true; the input reads as it did. -/
def digestChangesSpec : ChangeSpec := { name := "digestChanges", fn := fun _ => fun
  | [d1, d2, d3] => { results := [.lit (.bool true)], args := [d1, d2, d3] }
  | _ => none }
def digestChangesRow : OpenClaim := { program := "ytcopiimflloooaa", sum := "12720762878433a6445a8e127eee91e185fc1a8332ecea738b67e881e7e68b30", func := "rollcall/rollcalllaw05.DigestChanges", spec := "digestChanges", inPlace := ["internal/bytealg.abigen_runtime_cmpstring", "internal/abi.NoEscape", "slices.overlaps[rollcall/api.Seen]"], unfollowed := true, recurses := true, apart := false }
def DigestChangesSaid : Prop := digestChangesRow.holds Try.pinned (OpenSpec.ofChange digestChangesSpec)

/-- ITS FALSE NEIGHBOUR: 'it returns false'. Refute it at one input. -/
def digestChangesWrong : ChangeSpec := { name := "digestChanges", fn := fun _ => fun
  | [d1, d2, d3] => { results := [.lit (.bool false)], args := [d1, d2, d3] }
  | _ => none }
def DigestChangesWrongFalsely : Prop := digestChangesRow.holds Try.pinned (OpenSpec.ofChange digestChangesWrong)

/-- 'rollcalllaw05.DigestGets': WHATEVER THE INPUT: true; the input reads as it did. -/
def digestGetsSpec : ChangeSpec := { name := "digestGets", fn := fun _ => fun
  | [d1, d2, d3] => { results := [.lit (.bool true)], args := [d1, d2, d3] }
  | _ => none }
def digestGetsRow : OpenClaim := { program := "ytcopiimflloooaa", sum := "12720762878433a6445a8e127eee91e185fc1a8332ecea738b67e881e7e68b30", func := "rollcall/rollcalllaw05.DigestGets", spec := "digestGets", inPlace := ["internal/bytealg.abigen_runtime_cmpstring", "internal/abi.NoEscape", "slices.overlaps[rollcall/api.Seen]"], unfollowed := true, recurses := true, apart := false }
def DigestGetsSaid : Prop := digestGetsRow.holds Try.pinned (OpenSpec.ofChange digestGetsSpec)

/-- ITS FALSE NEIGHBOUR: 'it returns false'. Refute it at one input. -/
def digestGetsWrong : ChangeSpec := { name := "digestGets", fn := fun _ => fun
  | [d1, d2, d3] => { results := [.lit (.bool false)], args := [d1, d2, d3] }
  | _ => none }
def DigestGetsWrongFalsely : Prop := digestGetsRow.holds Try.pinned (OpenSpec.ofChange digestGetsWrong)

/-- 'rollcalllaw05.DigestTwo': WHATEVER THE INPUT: true; the input reads as it did. -/
def digestTwoSpec : ChangeSpec := { name := "digestTwo", fn := fun _ => fun
  | [d1, d2, d3] => { results := [.lit (.bool true)], args := [d1, d2, d3] }
  | _ => none }
def digestTwoRow : OpenClaim := { program := "ytcopiimflloooaa", sum := "12720762878433a6445a8e127eee91e185fc1a8332ecea738b67e881e7e68b30", func := "rollcall/rollcalllaw05.DigestTwo", spec := "digestTwo", inPlace := ["internal/bytealg.abigen_runtime_cmpstring", "internal/abi.NoEscape", "slices.overlaps[rollcall/api.Seen]"], unfollowed := true, recurses := true, apart := false }
def DigestTwoSaid : Prop := digestTwoRow.holds Try.pinned (OpenSpec.ofChange digestTwoSpec)

/-- ITS FALSE NEIGHBOUR: 'it returns false'. Refute it at one input. -/
def digestTwoWrong : ChangeSpec := { name := "digestTwo", fn := fun _ => fun
  | [d1, d2, d3] => { results := [.lit (.bool false)], args := [d1, d2, d3] }
  | _ => none }
def DigestTwoWrongFalsely : Prop := digestTwoRow.holds Try.pinned (OpenSpec.ofChange digestTwoWrong)

/- THE SECOND FORM. 'bulk': how many values and letters a reading holds, each counted each time it is reached (what is shared counts as often as it is met; a slice's spare places count too). A statement '..UptoSaid' is the law's where the arguments, and the package variables that the reading takes, are together of bulk at most 1048576: NARROWER than '..Said'. Prove '..Said' where nothing that the law and all that it calls make is longer than what came in: it says more and counts as full. Else prove '..UptoSaid'. A law counts once. -/
mutual
def uptoBulk {H : Type} : DataW H → Nat
  | .lit (.string bytes) => bytes.length + 1
  | .lit _ => 1
  | .nil => 1
  | .ptr d => uptoBulk d + 1
  | .slice elems spare => uptoBulkAll elems + uptoBulkAll spare + 1
  | .agg parts => uptoBulkAll parts + 1
  | .iface _ d => uptoBulk d + 1
  | .map entries => uptoBulkEntries entries + 1
  | .held _ => 1
def uptoBulkAll {H : Type} : List (DataW H) → Nat
  | [] => 0
  | d :: r => uptoBulk d + uptoBulkAll r
def uptoBulkEntries {H : Type} : List (Lit × DataW H) → Nat
  | [] => 0
  | x :: r => uptoBulkEntry x + uptoBulkEntries r
def uptoBulkEntry {H : Type} : Lit × DataW H → Nat
  | (.string bytes, d) => bytes.length + uptoBulk d + 1
  | (_, d) => uptoBulk d + 1
 end
def uptoSmall : (H : Type) → List (DataW H) → Bool := fun _ ds => decide (uptoBulkAll ds ≤ 1048576)
def OpenSpec.upto (s : _root_.Go.ChangeSpec) : _root_.Go.OpenSpec := { _root_.Go.OpenSpec.ofChange s with cond := some uptoSmall }

/-- 'rollcalllaw09.SessTells', WHERE WHAT IT READS IS OF BULK AT MOST 1048576: true; the input reads as it did. -/
def sessTellsUptoRow : OpenClaim := { program := "ytcopiimflloooaa", sum := "12720762878433a6445a8e127eee91e185fc1a8332ecea738b67e881e7e68b30", func := "rollcall/rollcalllaw09.SessTells", spec := "sessTells", inPlace := ["internal/bytealg.abigen_runtime_cmpstring", "slices.overlaps[rollcall/api.Session]"], unfollowed := true, recurses := true, apart := false, narrowed := true }
def SessTellsUptoSaid : Prop := sessTellsUptoRow.holds Try.pinned (OpenSpec.upto sessTellsSpec)

/-- 'rollcalllaw09.SessPuts', WHERE WHAT IT READS IS OF BULK AT MOST 1048576: true; the input reads as it did. -/
def sessPutsUptoRow : OpenClaim := { program := "ytcopiimflloooaa", sum := "12720762878433a6445a8e127eee91e185fc1a8332ecea738b67e881e7e68b30", func := "rollcall/rollcalllaw09.SessPuts", spec := "sessPuts", inPlace := ["internal/bytealg.abigen_runtime_cmpstring", "slices.overlaps[rollcall/api.Session]"], unfollowed := true, recurses := true, apart := false, narrowed := true }
def SessPutsUptoSaid : Prop := sessPutsUptoRow.holds Try.pinned (OpenSpec.upto sessPutsSpec)

/-- 'rollcalllaw09.SessKeeps', WHERE WHAT IT READS IS OF BULK AT MOST 1048576: true; the input reads as it did. -/
def sessKeepsUptoRow : OpenClaim := { program := "ytcopiimflloooaa", sum := "12720762878433a6445a8e127eee91e185fc1a8332ecea738b67e881e7e68b30", func := "rollcall/rollcalllaw09.SessKeeps", spec := "sessKeeps", inPlace := ["internal/bytealg.abigen_runtime_cmpstring", "slices.overlaps[rollcall/api.Session]"], unfollowed := true, recurses := true, apart := false, narrowed := true }
def SessKeepsUptoSaid : Prop := sessKeepsUptoRow.holds Try.pinned (OpenSpec.upto sessKeepsSpec)

/-- 'rollcalllaw09.SessAll', WHERE WHAT IT READS IS OF BULK AT MOST 1048576: true; the input reads as it did. -/
def sessAllUptoRow : OpenClaim := { program := "ytcopiimflloooaa", sum := "12720762878433a6445a8e127eee91e185fc1a8332ecea738b67e881e7e68b30", func := "rollcall/rollcalllaw09.SessAll", spec := "sessAll", inPlace := ["internal/bytealg.abigen_runtime_cmpstring", "slices.overlaps[rollcall/api.Session]"], unfollowed := true, recurses := true, apart := false, narrowed := true }
def SessAllUptoSaid : Prop := sessAllUptoRow.holds Try.pinned (OpenSpec.upto sessAllSpec)

/-- 'rollcalllaw09.SessTwo', WHERE WHAT IT READS IS OF BULK AT MOST 1048576: true; the input reads as it did. -/
def sessTwoUptoRow : OpenClaim := { program := "ytcopiimflloooaa", sum := "12720762878433a6445a8e127eee91e185fc1a8332ecea738b67e881e7e68b30", func := "rollcall/rollcalllaw09.SessTwo", spec := "sessTwo", inPlace := ["internal/bytealg.abigen_runtime_cmpstring", "slices.overlaps[rollcall/api.Session]"], unfollowed := true, recurses := true, apart := false, narrowed := true }
def SessTwoUptoSaid : Prop := sessTwoUptoRow.holds Try.pinned (OpenSpec.upto sessTwoSpec)

/-- 'rollcalllaw05.DigestTells', WHERE WHAT IT READS IS OF BULK AT MOST 1048576: true; the input reads as it did. -/
def digestTellsUptoRow : OpenClaim := { program := "ytcopiimflloooaa", sum := "12720762878433a6445a8e127eee91e185fc1a8332ecea738b67e881e7e68b30", func := "rollcall/rollcalllaw05.DigestTells", spec := "digestTells", inPlace := ["internal/bytealg.abigen_runtime_cmpstring", "internal/abi.NoEscape", "slices.overlaps[rollcall/api.Seen]"], unfollowed := true, recurses := true, apart := false, narrowed := true }
def DigestTellsUptoSaid : Prop := digestTellsUptoRow.holds Try.pinned (OpenSpec.upto digestTellsSpec)

/-- 'rollcalllaw05.DigestTakes', WHERE WHAT IT READS IS OF BULK AT MOST 1048576: true; the input reads as it did. -/
def digestTakesUptoRow : OpenClaim := { program := "ytcopiimflloooaa", sum := "12720762878433a6445a8e127eee91e185fc1a8332ecea738b67e881e7e68b30", func := "rollcall/rollcalllaw05.DigestTakes", spec := "digestTakes", inPlace := ["internal/bytealg.abigen_runtime_cmpstring", "internal/abi.NoEscape", "slices.overlaps[rollcall/api.Seen]"], unfollowed := true, recurses := true, apart := false, narrowed := true }
def DigestTakesUptoSaid : Prop := digestTakesUptoRow.holds Try.pinned (OpenSpec.upto digestTakesSpec)

/-- 'rollcalllaw05.DigestSets', WHERE WHAT IT READS IS OF BULK AT MOST 1048576: true; the input reads as it did. -/
def digestSetsUptoRow : OpenClaim := { program := "ytcopiimflloooaa", sum := "12720762878433a6445a8e127eee91e185fc1a8332ecea738b67e881e7e68b30", func := "rollcall/rollcalllaw05.DigestSets", spec := "digestSets", inPlace := ["internal/bytealg.abigen_runtime_cmpstring", "internal/abi.NoEscape", "slices.overlaps[rollcall/api.Seen]"], unfollowed := true, recurses := true, apart := false, narrowed := true }
def DigestSetsUptoSaid : Prop := digestSetsUptoRow.holds Try.pinned (OpenSpec.upto digestSetsSpec)

/-- 'rollcalllaw05.DigestBack', WHERE WHAT IT READS IS OF BULK AT MOST 1048576: true; the input reads as it did. -/
def digestBackUptoRow : OpenClaim := { program := "ytcopiimflloooaa", sum := "12720762878433a6445a8e127eee91e185fc1a8332ecea738b67e881e7e68b30", func := "rollcall/rollcalllaw05.DigestBack", spec := "digestBack", inPlace := ["internal/bytealg.abigen_runtime_cmpstring", "internal/abi.NoEscape", "slices.overlaps[rollcall/api.Seen]"], unfollowed := true, recurses := true, apart := false, narrowed := true }
def DigestBackUptoSaid : Prop := digestBackUptoRow.holds Try.pinned (OpenSpec.upto digestBackSpec)

/-- 'rollcalllaw05.DigestChanges', WHERE WHAT IT READS IS OF BULK AT MOST 1048576: true; the input reads as it did. -/
def digestChangesUptoRow : OpenClaim := { program := "ytcopiimflloooaa", sum := "12720762878433a6445a8e127eee91e185fc1a8332ecea738b67e881e7e68b30", func := "rollcall/rollcalllaw05.DigestChanges", spec := "digestChanges", inPlace := ["internal/bytealg.abigen_runtime_cmpstring", "internal/abi.NoEscape", "slices.overlaps[rollcall/api.Seen]"], unfollowed := true, recurses := true, apart := false, narrowed := true }
def DigestChangesUptoSaid : Prop := digestChangesUptoRow.holds Try.pinned (OpenSpec.upto digestChangesSpec)

/-- 'rollcalllaw05.DigestGets', WHERE WHAT IT READS IS OF BULK AT MOST 1048576: true; the input reads as it did. -/
def digestGetsUptoRow : OpenClaim := { program := "ytcopiimflloooaa", sum := "12720762878433a6445a8e127eee91e185fc1a8332ecea738b67e881e7e68b30", func := "rollcall/rollcalllaw05.DigestGets", spec := "digestGets", inPlace := ["internal/bytealg.abigen_runtime_cmpstring", "internal/abi.NoEscape", "slices.overlaps[rollcall/api.Seen]"], unfollowed := true, recurses := true, apart := false, narrowed := true }
def DigestGetsUptoSaid : Prop := digestGetsUptoRow.holds Try.pinned (OpenSpec.upto digestGetsSpec)

/-- 'rollcalllaw05.DigestTwo', WHERE WHAT IT READS IS OF BULK AT MOST 1048576: true; the input reads as it did. -/
def digestTwoUptoRow : OpenClaim := { program := "ytcopiimflloooaa", sum := "12720762878433a6445a8e127eee91e185fc1a8332ecea738b67e881e7e68b30", func := "rollcall/rollcalllaw05.DigestTwo", spec := "digestTwo", inPlace := ["internal/bytealg.abigen_runtime_cmpstring", "internal/abi.NoEscape", "slices.overlaps[rollcall/api.Seen]"], unfollowed := true, recurses := true, apart := false, narrowed := true }
def DigestTwoUptoSaid : Prop := digestTwoUptoRow.holds Try.pinned (OpenSpec.upto digestTwoSpec)

end Rows
end Go.Proofs.Ytcopiimflloooaa
