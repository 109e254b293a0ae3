/-
A region that draws its order and has many operations, walked by NAME: its operations as one constant, the order of taking as one list, all side conditions as one Bool.
A function's region, found by its number.
A region that draws its order, walked by NAME: all that is checked of it once, and a step that takes its place from the goal.
-/
import Derived.Test.YtocdoddmaopdbaaProg
import Derived.Test.YtocdoddmaopdbaaLib
import Derived.Deep.RegionHeld3
set_option linter.unusedVariables false
set_option linter.unusedSimpArgs false
namespace Go.Proofs.Ytocdoddmaopdbaa
open Go.RowKit
namespace Held
/-- The operations of the region that stands behind n others in a line of code. -/
def nth : Nat → Code → Array Oper
  | 0, .seq (.region _ ops _) _ => ops
  | 0, .region _ ops _ => ops
  | n + 1, .seq _ b => nth n b
  | _, _ => #[]
def ofBody (n : Nat) : Option Code → Array Oper
  | some c => nth n c
  | none => #[]
/-- Which have come up: the first k of the order o. -/
def lst (n : Nat) (o : List Nat) (k : Nat) : Array Bool := (o.take k).foldl (fun L i => L.setIfInBounds i true) (Array.replicate n false)
theorem lst_succ (n : Nat) (o : List Nat) (k i : Nat) (h : o[k]? = some i) : (lst n o k).setIfInBounds i true = lst n o (k + 1) := by
  unfold lst
  rw [List.take_add_one, h, List.foldl_append]
  rfl
/-- The k-th of the order may be taken first. -/
def okAt (ops : Array Oper) (o : List Nat) (k : Nat) : Bool :=
  match o[k]? with
  | some i => Region.free .any ops (lst ops.size o k) i && (Region.ready .any ops (lst ops.size o k)).contains i
  | none => false
section
variable {P : Program} {ops : Array Oper} {Q : Exit → Act → World → Prop} {S : World → Prop}
theorem start {ops0 : Array Oper} {id : Nat} {a : Act} {w : World} (o : List Nat) (n : Nat) (he : ops0 = ops) (hn : ops.size = n) (hm : P.follows .mixedOrders = true) (hS : S w.drew)
    (h : S w.drew → wpAnyH P .any ops Q S n (lst n o 0) a w.drew) : (Code.region id ops0 true).wp P Q a w := by
  subst he
  refine wp_region_held_drew hm hS fun hs => ?_
  rw [hn]
  exact h hs
theorem take {o : List Nat} {n k i : Nat} {oi : Oper} {v : Value} {fuel : Nat} {a : Act} {w : World} (hns : Region.noSelect ops = true) (h2 : okAt ops o k = true) (hn : ops.size = n) (hk : o[k]? = some i) (hi : ops.toList[i]? = some oi)
    (hQ : ∀ c a w, Q (.panic c) (a.put oi.dst v) w → Q (.panic c) a w) (hy : YieldsIf P ops S oi v a) (hS : S w)
    (h : wpAnyH P .any ops Q S fuel (lst n o (k + 1)) (a.put oi.dst v) w) : wpAnyH P .any ops Q S (fuel + 1) (lst n o k) a w := by
  subst hn
  unfold okAt at h2
  rw [hk] at h2
  simp only [Bool.and_eq_true] at h2
  refine wpAnyH_take (by simpa using hi) hns h2.1 h2.2 hQ hy hS ?_
  rw [lst_succ _ _ _ _ hk]
  exact h
theorem only {o : List Nat} {n k i : Nat} {oi : Oper} {fuel : Nat} {a : Act} {w : World} (hr : Region.ready .any ops (lst n o k) = [i]) (hk : o[k]? = some i) (hi : ops.toList[i]? = some oi) (hw : Region.wanted oi (yielded ops a.tmps) = true)
    (h : ∀ K' : Act → World → Prop, Shut (∀ a w, S w → (S w → wpAnyH P .any ops Q S fuel (lst n o (k + 1)) a w) → K' a w) → Oper.wp P oi a w K' Q) : wpAnyH P .any ops Q S (fuel + 1) (lst n o k) a w := by
  refine wpAnyH_ready hr (by simp) (AllReadyH.cons (by simpa using hi) (fun K hK => ?_) AllReadyH.nil)
  rw [if_pos hw]
  refine h K ?_
  rw [lst_succ _ _ _ _ hk] at hK
  exact hK
end
end Held
end Go.Proofs.Ytocdoddmaopdbaa
set_option linter.unusedVariables false
namespace Go.Proofs.Ytocdoddmaopdbaa
namespace Held
def find (n : Nat) : Code → Option (Array Oper)
  | .region id ops _ => if id == n then some ops else none
  | .seq a b => match find n a with
    | some x => some x
    | none => find n b
  | .cond _ a b => match find n a with
    | some x => some x
    | none => find n b
  | .block _ b => find n b
  | .loop b => find n b
  | .scope b => find n b
  | .rangeFunc _ _ _ b => find n b
  | _ => none
def inBody (n : Nat) : Option Code → Array Oper
  | some c => (find n c).getD #[]
  | none => #[]
end Held
end Go.Proofs.Ytocdoddmaopdbaa
set_option linter.unusedVariables false
namespace Go.Proofs.Ytocdoddmaopdbaa
namespace Held
/-- How many operations; no select; and those places of the order of which the operation may be taken first. -/
structure Reg (ops : Array Oper) (o : List Nat) (n : Nat) (ks : List Nat) : Prop where
  siz : ops.size = n
  nos : Region.noSelect ops = true
  ok : (ks.all fun k => okAt ops o k) = true
theorem tk {P : Program} {ops : Array Oper} {Q : Exit → Act → World → Prop} {S : World → Prop} {o ks : List Nat} {n k i : Nat} {oi : Oper} {v : Value} {fuel : Nat} {a : Act} {w : World} (R : Reg ops o n ks) (h2 : ks.contains k = true) (hk : o[k]? = some i) (hi : ops.toList[i]? = some oi)
    (hQ : ∀ c a w, Q (.panic c) (a.put oi.dst v) w → Q (.panic c) a w) (hS : S w) (hy : YieldsIf P ops S oi v a)
    (h : wpAnyH P .any ops Q S fuel (lst n o (k + 1)) (a.put oi.dst v) w) : wpAnyH P .any ops Q S (fuel + 1) (lst n o k) a w :=
  take R.nos (List.all_eq_true.1 R.ok k (by simpa using h2)) R.siz hk hi hQ hy hS h
end Held
end Go.Proofs.Ytocdoddmaopdbaa
