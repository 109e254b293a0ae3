/-
A map of the call's own from texts to integers, used to count: each text's number is how often it was put.
A map that is written out: put anew, and looked up, as run equations.
-/
import Derived.Test.YtpmafghknafhaaaRosA
import Derived.Test.YtpmafghknafhaaaIdentD
import Derived.Maps.OwnOps
import Derived.Maps.OwnSet
import Derived.Test.YtpmafghknafhaaaProg
import Derived.Test.YtpmafghknafhaaaLib
import Derived.MapKept
namespace Go.Proofs.Ytpmafghknafhaaa
open Go.RowKit Go.WideMaps Go.Maps Sp

def keyC (s : ByteArray) : Lit := .string s.data.toList
theorem keyC_key (s : ByteArray) : WideAt.IsKeyLit (keyC s) := trivial
theorem keyC_ne {s t : ByteArray} (h : s ≠ t) : keyC s ≠ keyC t := fun e => h (by
  have e2 : s.data.toList = t.data.toList := by injection e
  exact toList_inj.1 e2)
theorem mapLawC : Keyed Try.prog 9 := string_keyed Try.underlying9
theorem zeroInt (w : World) : (zeroValue 3).run Try.prog w = .ok (.int .i64 0) w := by kernel_rfl
def CntOf (D : DataW Unit) (xs : List ByteArray) : Prop := Tidy D ∧ ∀ s, D.atKey (keyC s) (.lit (.int .i64 0)) = .lit (.int .i64 (cntL xs s : Int))
theorem CntOf.new : CntOf (.map []) [] := ⟨tidy_empty, fun _ => by simp [DataW.atKey, cntL]⟩
theorem CntOf.put {D : DataW Unit} {xs : List ByteArray} (h : CntOf D xs) (s : ByteArray) : CntOf (D.put (keyC s) (.lit (.int .i64 ((cntL xs s + 1 : Nat) : Int)))) (xs ++ [s]) := by
  obtain ⟨h1, h2⟩ := h
  refine ⟨h1.put (keyC_key s) _, fun t => ?_⟩
  rw [cntL_snoc]
  by_cases e : t = s
  · subst e
    rw [atKey_put_same h1.isMap (keyC_key t), if_pos rfl]
  · rw [atKey_put_other (keyC_ne e), h2, if_neg (Ne.symm e), Nat.add_zero]
def CntMap (w : World) (b n : Nat) (xs : List ByteArray) : Prop := ∃ D : DataW Unit, w.ownsMap Try.prog 9 (plainElem Try.prog 3) b n D ∧ CntOf D xs
theorem CntMap.new (w : World) : CntMap (w.alloc (.map #[] 0)) w.heap.size 0 [] := ⟨_, World.ownsMap_made _ _ _ _, CntOf.new⟩
theorem CntMap.below {w w1 : World} {b n : Nat} {xs : List ByteArray} (h : CntMap w b n xs) (hb : Below w.heap.size w w1) : CntMap w1 b n xs := by
  obtain ⟨D, h1, h2⟩ := h
  exact ⟨D, h1.kept (grown_of_below hb none) (by simp), h2⟩
theorem CntMap.look {w : World} {b n : Nat} {xs : List ByteArray} (h : CntMap w b n xs) (s : ByteArray) (hs : s.size ≤ maxLen) :
    (Instr.lookup 65 (.map (some b)) (.string s) false).run Try.prog w = .ok (.int .i64 (cntL xs s)) w := by
  obtain ⟨D, h1, h2⟩ := h
  obtain ⟨v, ps, hrun, hv⟩ := h1.lookup mapLawC Try.underlying65 (zeroInt _) (plainElem_int Try.underlying3 (by decide)) (keyOf_string_mk Try.underlying9 hs)
  rw [show (.string s.data.toList : Lit) = keyC s from rfl, h2.2] at hv
  obtain ⟨x, rfl, e, _⟩ := plainElem_int_inv Try.underlying3 hv
  simp only [Prod.mk.injEq, DataW.lit.injEq, Lit.int.injEq, true_and] at e
  rw [hrun, e.1]
end Go.Proofs.Ytpmafghknafhaaa
set_option linter.unusedVariables false
namespace Go.Proofs.Ytpmafghknafhaaa
open Go.RowKit Go.MapKept
theorem upd_new {P : Program} {kt et mty : TypeId} {d : TypeDesc} {es : Array MapEntry} {clock : Nat} {key value : Value} (hm : P.underlying mty = some (.map kt et)) (hd : P.underlying kt = some d) (hk : IsKey d key) (hf : Instr.findNow d key es.toList 0 = some none) (W : World) (b : Nat) (h : W.heap.size = b) :
    (Instr.mapUpdate mty (.map (some b)) key value).run P (W.alloc (.map es clock)) = .ok () (W.alloc (.map (es.push { key, val := value, born := clock }) (clock + 1))) := by
  subst h
  have hb : (W.alloc (.map es clock)).heap[W.heap.size]? = some (.map es clock) := heap_alloc_new _ _
  have hw : ({ W.alloc (.map es clock) with heap := (W.alloc (.map es clock)).heap.setIfInBounds W.heap.size (.map (es.push { key, val := value, born := clock }) (clock + 1)) } : World) = W.alloc (.map (es.push { key, val := value, born := clock }) (clock + 1)) := by
    unfold World.alloc
    simp only [World.mk.injEq, and_true]
    apply Array.ext_getElem?
    intro i
    rw [Array.getElem?_setIfInBounds, Array.getElem?_push, Array.getElem?_push]
    by_cases hi : W.heap.size = i
    · subst hi
      simp
    · rw [if_neg hi, if_neg (fun e => hi e.symm)]
      first | rfl | (rw [if_neg (fun e => hi e.symm)])
  unfold Instr.mapUpdate
  simp only [Sem.run_bind, run_underlying hm, Result.andThen, Go.MapKept.run_getObj_map hb, Go.MapKept.run_checkKey hd hk, Go.MapKept.run_findKey hd hf]
  rw [Go.MapKept.run_setObj_map _ hb, hw]
theorem look_at {P : Program} {kt et mty : TypeId} {d : TypeDesc} {es : Array MapEntry} {clock : Nat} {key value : Value} {i : Nat} (hm : P.underlying mty = some (.map kt et)) (hd : P.underlying kt = some d) (hk : IsKey d key) (hf : Instr.findNow d key es.toList 0 = some (some (i, value))) (W : World) (b : Nat) (hb : W.heap[b]? = some (.map es clock)) :
    (Instr.lookup mty (.map (some b)) key true).run P W = .ok (.tuple #[value, .bool true]) W := by
  unfold Instr.lookup
  simp [run_underlying hm, Result.andThen, Go.MapKept.run_getObj_map hb, Go.MapKept.run_checkKey hd hk, Go.MapKept.run_findKey hd hf]
end Go.Proofs.Ytpmafghknafhaaa
