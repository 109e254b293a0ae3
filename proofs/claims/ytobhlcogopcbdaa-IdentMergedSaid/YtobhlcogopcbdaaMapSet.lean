/-
A map of the call's own from texts to booleans, used as a set: what is put is true, nothing else is.
-/
import Derived.Test.YtobhlcogopcbdaaSpecC
import Derived.Test.YtobhlcogopcbdaaIdentD
import Derived.Maps.OwnOps
import Derived.Maps.OwnSet
namespace Go.Proofs.Ytobhlcogopcbdaa
open Go.RowKit Go.WideMaps Go.Maps Sp

def inL (l : List ByteArray) (s : ByteArray) : Bool := l.any fun x => decide (x = s)
theorem inL_iff (l : List ByteArray) (s : ByteArray) : inL l s = true ↔ s ∈ l := by
  unfold inL
  rw [List.any_eq_true]
  constructor
  · rintro ⟨x, hx, e⟩
    have := of_decide_eq_true e
    rw [← this]; exact hx
  · exact fun h => ⟨s, h, decide_eq_true rfl⟩
theorem inL_snoc (l : List ByteArray) (s t : ByteArray) : inL (l ++ [s]) t = (inL l t || decide (s = t)) := by simp [inL]
theorem insS_len_mem (l : List ByteArray) (s : ByteArray) (h : Sorted l) : (insS l s).length = if inL l s then l.length else l.length + 1 := by
  split
  · rename_i hs
    rw [inL_iff] at hs
    have : insS l s = l := sorted_ext _ _ (insS_sorted l s h) h fun x => by
      rw [insS_mem]
      constructor
      · rintro (rfl | hx)
        · exact hs
        · exact hx
      · exact .inr
    rw [this]
  · rename_i hs
    rw [inL_iff] at hs
    have hl : l.takeWhile (fun x => less x s) ++ l.dropWhile (fun x => less x s) = l := List.takeWhile_append_dropWhile
    unfold insS
    simp only
    split
    · rename_i hq
      refine absurd ?_ hs
      rw [← hl]
      exact List.mem_append_right _ (List.mem_of_mem_head? hq)
    · rw [List.length_append, List.length_cons]
      have := congrArg List.length hl
      rw [List.length_append] at this
      omega

def keyL (s : ByteArray) : Lit := .string s.data.toList
theorem keyL_key (s : ByteArray) : WideAt.IsKeyLit (keyL s) := trivial
theorem keyL_ne {s t : ByteArray} (h : s ≠ t) : keyL s ≠ keyL t := fun e => h (by
  have e2 : s.data.toList = t.data.toList := by injection e
  exact toList_inj.1 e2)

theorem plainElem_bool_inv {H : Type} {P : Program} {e : TypeId} (he : P.underlying e = some .bool) {v : Value} {z : DataW H × List MemPlace} (h : plainElem P e v = some z) : ∃ x, v = .bool x ∧ z = (.lit (.bool x), []) := by
  unfold plainElem at h
  rw [he] at h
  cases v <;> simp at h
  exact ⟨_, rfl, h.symm⟩

theorem mapLaw : Keyed Try.prog 9 := string_keyed Try.underlying9
theorem zeroBool (w : World) : (zeroValue 4).run Try.prog w = .ok (.bool false) w := by kernel_rfl

def MapOf (D : DataW Unit) (xs : List ByteArray) : Prop :=
  Tidy D ∧ (∀ s, D.atKey (keyL s) (.lit (.bool false)) = .lit (.bool (inL xs s))) ∧ (∀ s, Maps.has D (keyL s) = inL xs s) ∧ Maps.size D = (xs.foldl insS []).length
theorem MapOf.new : MapOf (.map []) [] := ⟨tidy_empty, fun _ => by simp [DataW.atKey, inL], fun _ => by simp [Maps.has, inL], rfl⟩
theorem MapOf.put {D : DataW Unit} {xs : List ByteArray} (h : MapOf D xs) (s : ByteArray) : MapOf (D.put (keyL s) (.lit (.bool true))) (xs ++ [s]) := by
  obtain ⟨h1, h2, h3, h4⟩ := h
  refine ⟨h1.put (keyL_key s) _, fun t => ?_, fun t => ?_, ?_⟩
  · rw [inL_snoc]
    by_cases e : t = s
    · subst e
      rw [atKey_put_same h1.isMap (keyL_key t), decide_eq_true rfl, Bool.or_true]
    · rw [atKey_put_other (keyL_ne e), h2, decide_eq_false (Ne.symm e), Bool.or_false]
  · rw [inL_snoc]
    by_cases e : t = s
    · subst e
      rw [has_put_same h1.isMap (keyL_key t), decide_eq_true rfl, Bool.or_true]
    · rw [has_put_other (keyL_ne e), h3, decide_eq_false (Ne.symm e), Bool.or_false]
  · rw [size_put h1, h3, List.foldl_append, List.foldl_cons, List.foldl_nil, insS_len_mem _ _ (fold_sorted _ _ List.Pairwise.nil), h4]
    have : inL xs s = inL (xs.foldl insS []) s := by
      rw [Bool.eq_iff_iff, inL_iff, inL_iff, fold_mem]; simp
    rw [this]

def SetMap (w : World) (b n : Nat) (xs : List ByteArray) : Prop := ∃ D : DataW Unit, w.ownsMap Try.prog 9 (plainElem Try.prog 4) b n D ∧ MapOf D xs
theorem SetMap.new (w : World) : SetMap (w.alloc (.map #[] 0)) w.heap.size 0 [] := ⟨_, World.ownsMap_made _ _ _ _, MapOf.new⟩
theorem SetMap.below {w w1 : World} {b n : Nat} {xs : List ByteArray} (h : SetMap w b n xs) (hb : Below w.heap.size w w1) : SetMap w1 b n xs := by
  obtain ⟨D, h1, h2⟩ := h
  exact ⟨D, h1.kept (grown_of_below hb none) (by simp), h2⟩
theorem SetMap.look {w : World} {b n : Nat} {xs : List ByteArray} (h : SetMap w b n xs) (s : ByteArray) (hs : s.size ≤ maxLen) :
    (Instr.lookup 37 (.map (some b)) (.string s) false).run Try.prog w = .ok (.bool (inL xs s)) w := by
  obtain ⟨D, h1, h2⟩ := h
  obtain ⟨v, ps, hrun, hv⟩ := h1.lookup mapLaw Try.underlying37 (zeroBool _) (plainElem_bool Try.underlying4 false) (keyOf_string_mk Try.underlying9 hs)
  rw [show (.string s.data.toList : Lit) = keyL s from rfl, h2.2.1] at hv
  obtain ⟨x, rfl, e⟩ := plainElem_bool_inv Try.underlying4 hv
  simp only [Prod.mk.injEq, DataW.lit.injEq, Lit.bool.injEq] at e
  rw [hrun, e.1]
end Go.Proofs.Ytobhlcogopcbdaa
