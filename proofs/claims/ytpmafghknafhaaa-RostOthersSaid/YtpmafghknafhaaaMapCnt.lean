/-
A map of the call's own from texts to integers, used to count: each text's number is how often it was put.
-/
import Derived.Test.YtpmafghknafhaaaRosC
import Derived.Test.YtpmafghknafhaaaIdentD
import Derived.Maps.OwnOps
import Derived.Maps.OwnSet
namespace Go.Proofs.Ytpmafghknafhaaa
open Go.RowKit Go.WideMaps Go.Maps Sp

def keyC (s : ByteArray) : Lit := .string s.data.toList
theorem keyC_key (s : ByteArray) : WideAt.IsKeyLit (keyC s) := trivial
theorem keyC_ne {s t : ByteArray} (h : s ≠ t) : keyC s ≠ keyC t := fun e => h (by
  have e2 : s.data.toList = t.data.toList := by injection e
  exact toList_inj.1 e2)
theorem mapLawC : Keyed Try.prog 9 := string_keyed Try.underlying9
theorem zeroInt (w : World) : (zeroValue 3).run Try.prog w = .ok (.int .i64 0) w := by kernel_rfl
def CntOf (D : DataW Unit) (xs : List ByteArray) : Prop := Tidy D ∧ ∀ s, D.atKey (keyC s) (.lit (.int .i64 0)) = .lit (.int .i64 (cntL xs s : Int))
theorem CntOf.new : CntOf (.map []) [] := ⟨tidy_empty, fun _ => by simp [DataW.atKey, cntL]⟩
theorem CntOf.put {D : DataW Unit} {xs : List ByteArray} (h : CntOf D xs) (s : ByteArray) : CntOf (D.put (keyC s) (.lit (.int .i64 ((cntL xs s + 1 : Nat) : Int)))) (xs ++ [s]) := by
  obtain ⟨h1, h2⟩ := h
  refine ⟨h1.put (keyC_key s) _, fun t => ?_⟩
  rw [cntL_snoc]
  by_cases e : t = s
  · subst e
    rw [atKey_put_same h1.isMap (keyC_key t), if_pos rfl]
  · rw [atKey_put_other (keyC_ne e), h2, if_neg (Ne.symm e), Nat.add_zero]
def CntMap (w : World) (b n : Nat) (xs : List ByteArray) : Prop := ∃ D : DataW Unit, w.ownsMap Try.prog 9 (plainElem Try.prog 3) b n D ∧ CntOf D xs
theorem CntMap.new (w : World) : CntMap (w.alloc (.map #[] 0)) w.heap.size 0 [] := ⟨_, World.ownsMap_made _ _ _ _, CntOf.new⟩
theorem CntMap.below {w w1 : World} {b n : Nat} {xs : List ByteArray} (h : CntMap w b n xs) (hb : Below w.heap.size w w1) : CntMap w1 b n xs := by
  obtain ⟨D, h1, h2⟩ := h
  exact ⟨D, h1.kept (grown_of_below hb none) (by simp), h2⟩
theorem CntMap.look {w : World} {b n : Nat} {xs : List ByteArray} (h : CntMap w b n xs) (s : ByteArray) (hs : s.size ≤ maxLen) :
    (Instr.lookup 65 (.map (some b)) (.string s) false).run Try.prog w = .ok (.int .i64 (cntL xs s)) w := by
  obtain ⟨D, h1, h2⟩ := h
  obtain ⟨v, ps, hrun, hv⟩ := h1.lookup mapLawC Try.underlying65 (zeroInt _) (plainElem_int Try.underlying3 (by decide)) (keyOf_string_mk Try.underlying9 hs)
  rw [show (.string s.data.toList : Lit) = keyC s from rfl, h2.2] at hv
  obtain ⟨x, rfl, e, _⟩ := plainElem_int_inv Try.underlying3 hv
  simp only [Prod.mk.injEq, DataW.lit.injEq, Lit.int.injEq, true_and] at e
  rw [hrun, e.1]
end Go.Proofs.Ytpmafghknafhaaa
