/-
A map that is written out: put anew, and looked up, as run equations.
-/
import Derived.Test.YtpmafghknafhaaaProg
import Derived.Test.YtpmafghknafhaaaLib

import Derived.MapKept
set_option linter.unusedVariables false
namespace Go.Proofs.Ytpmafghknafhaaa
open Go.RowKit Go.MapKept
theorem upd_new {P : Program} {kt et mty : TypeId} {d : TypeDesc} {es : Array MapEntry} {clock : Nat} {key value : Value} (hm : P.underlying mty = some (.map kt et)) (hd : P.underlying kt = some d) (hk : IsKey d key) (hf : Instr.findNow d key es.toList 0 = some none) (W : World) (b : Nat) (h : W.heap.size = b) :
    (Instr.mapUpdate mty (.map (some b)) key value).run P (W.alloc (.map es clock)) = .ok () (W.alloc (.map (es.push { key, val := value, born := clock }) (clock + 1))) := by
  subst h
  have hb : (W.alloc (.map es clock)).heap[W.heap.size]? = some (.map es clock) := heap_alloc_new _ _
  have hw : ({ W.alloc (.map es clock) with heap := (W.alloc (.map es clock)).heap.setIfInBounds W.heap.size (.map (es.push { key, val := value, born := clock }) (clock + 1)) } : World) = W.alloc (.map (es.push { key, val := value, born := clock }) (clock + 1)) := by
    unfold World.alloc
    simp only [World.mk.injEq, and_true]
    apply Array.ext_getElem?
    intro i
    rw [Array.getElem?_setIfInBounds, Array.getElem?_push, Array.getElem?_push]
    by_cases hi : W.heap.size = i
    · subst hi
      simp
    · rw [if_neg hi, if_neg (fun e => hi e.symm)]
      first | rfl | (rw [if_neg (fun e => hi e.symm)])
  unfold Instr.mapUpdate
  simp only [Sem.run_bind, run_underlying hm, Result.andThen, Go.MapKept.run_getObj_map hb, Go.MapKept.run_checkKey hd hk, Go.MapKept.run_findKey hd hf]
  rw [Go.MapKept.run_setObj_map _ hb, hw]
theorem look_at {P : Program} {kt et mty : TypeId} {d : TypeDesc} {es : Array MapEntry} {clock : Nat} {key value : Value} {i : Nat} (hm : P.underlying mty = some (.map kt et)) (hd : P.underlying kt = some d) (hk : IsKey d key) (hf : Instr.findNow d key es.toList 0 = some (some (i, value))) (W : World) (b : Nat) (hb : W.heap[b]? = some (.map es clock)) :
    (Instr.lookup mty (.map (some b)) key true).run P W = .ok (.tuple #[value, .bool true]) W := by
  unfold Instr.lookup
  simp [run_underlying hm, Result.andThen, Go.MapKept.run_getObj_map hb, Go.MapKept.run_checkKey hd hk, Go.MapKept.run_findKey hd hf]
end Go.Proofs.Ytpmafghknafhaaa
