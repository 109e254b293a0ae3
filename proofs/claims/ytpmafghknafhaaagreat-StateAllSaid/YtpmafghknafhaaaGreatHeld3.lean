/-
A region that draws its order, where two operations may come up.
-/
import Derived.Test.YtpmafghknafhaaaGreatHeldA
set_option linter.unusedVariables false
namespace Go.Proofs.YtpmafghknafhaaaGreat
open Go.RowKit
namespace Held
variable {P : Program} {ops : Array Oper} {Q : Exit → Act → World → Prop} {S : World → Prop}
theorem two {o o1 o2 : List Nat} {n k i j : Nat} {oi oj : Oper} {fuel : Nat} {a : Act} {w : World} (hr : Region.ready .any ops (lst n o k) = [i, j]) (e1 : (lst n o k).setIfInBounds i true = lst n o1 (k + 1)) (e2 : (lst n o k).setIfInBounds j true = lst n o2 (k + 1))
    (hi : ops.toList[i]? = some oi) (hj : ops.toList[j]? = some oj) (hwi : Region.wanted oi (yielded ops a.tmps) = true) (hwj : Region.wanted oj (yielded ops a.tmps) = true)
    (h1 : ∀ K' : Act → World → Prop, Shut (∀ a w, S w → (S w → wpAnyH P .any ops Q S fuel (lst n o1 (k + 1)) a w) → K' a w) → Oper.wp P oi a w K' Q)
    (h2 : ∀ K' : Act → World → Prop, Shut (∀ a w, S w → (S w → wpAnyH P .any ops Q S fuel (lst n o2 (k + 1)) a w) → K' a w) → Oper.wp P oj a w K' Q) : wpAnyH P .any ops Q S (fuel + 1) (lst n o k) a w := by
  refine wpAnyH_ready hr (by simp) (AllReadyH.cons (by simpa using hi) (fun K hK => ?_) (AllReadyH.cons (by simpa using hj) (fun K hK => ?_) AllReadyH.nil))
  · rw [if_pos hwi]
    rw [e1] at hK
    exact h1 K hK
  · rw [if_pos hwj]
    rw [e2] at hK
    exact h2 K hK
end Held
end Go.Proofs.YtpmafghknafhaaaGreat
