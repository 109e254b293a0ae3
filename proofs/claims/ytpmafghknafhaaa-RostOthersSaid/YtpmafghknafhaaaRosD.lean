/-
Plain definitions: what is done of rosters, and what comes of it.
-/
import Derived.Test.YtpmafghknafhaaaRosC
set_option linter.unusedSectionVars false
namespace Go.Proofs.Ytpmafghknafhaaa
namespace Sp
/-- What one of two does, of both items (layer 7). -/
def actI (a b : It) (k : Int) : It × It × Int :=
  if fitI a b = false then (a, b, 1)
  else if k = 1 then (if a.bl || b.bl then (a, b, 8) else if a.to || a.ou then (a, b, 7) else (⟨a.to, a.fr, true, a.in_, a.bl⟩, ⟨b.to, b.fr, b.ou, true, b.bl⟩, 0))
  else if k = 2 then (if a.bl || b.bl then (a, b, 8) else if a.in_ then (⟨a.to, true, a.ou, false, a.bl⟩, ⟨true, b.fr, false, b.in_, b.bl⟩, 0) else (a, b, 7))
  else if k = 3 then (if a.to || a.ou then (⟨false, a.fr, false, a.in_, a.bl⟩, ⟨b.to, false, b.ou, false, b.bl⟩, 0) else (a, b, 7))
  else if k = 4 then (if a.fr || a.in_ then (⟨a.to, false, a.ou, false, a.bl⟩, ⟨false, b.fr, false, b.in_, b.bl⟩, 0) else (a, b, 7))
  else if k = 5 then (if a.bl then (a, b, 7) else (⟨a.to, a.fr, a.ou, a.in_, true⟩, b, 0))
  else if k = 6 then (if a.bl then (⟨a.to, a.fr, a.ou, a.in_, false⟩, b, 0) else (a, b, 7))
  else (a, b, 1)
/-- Entries with one at its place, or without it. -/
def setRo (l : List En) (x : En) (keep : Bool) : List En :=
  if keep then (delK keyRo l (keyRo x)).takeWhile (fun y => !ltRo (keyRo x) (keyRo y)) ++ x :: (delK keyRo l (keyRo x)).dropWhile (fun y => !ltRo (keyRo x) (keyRo y)) else delK keyRo l (keyRo x)
def okDo (l : List En) (k : Int) (u o : ByteArray) : Bool := mayRo l && (isName u && (isName o && (!decide (u = o) && (decide (1 ≤ k) && decide (k ≤ 6)))))
def fullRo (l : List En) (u o : ByteArray) : Bool := !hasRo l u o && (decide (16 ≤ (ofRo l u).length) || decide (16 ≤ (ofRo l o).length))
def doRo (l : List En) (k : Int) (u o : ByteArray) : List En × Int :=
  if okDo l k u o = false then (l, 1)
  else
    let r := actI (getRo l u o) (getRo l o u) k
    if r.2.2 ≠ 0 then (l, r.2.2)
    else if fullRo l u o = true then (l, 5)
    else
      let keep := !(emptyI r.1 && emptyI r.2.1)
      (setRo (setRo l ⟨u, o, r.1⟩ keep) ⟨o, u, r.2.1⟩ keep, 0)
theorem setRo_put {l : List En} (h : OrdRo l) (x : En) : setRo l x true = putK keyRo ltRo l x := by
  unfold setRo putK insK
  rw [if_pos rfl]
  have hd := delK_ord (key := keyRo) (lt := ltRo) h (keyRo x)
  have e : ∀ m : List En, (∀ y ∈ m, keyRo y ≠ keyRo x) → m.takeWhile (fun y => !ltRo (keyRo x) (keyRo y)) = m.takeWhile (fun y => ltRo (keyRo y) (keyRo x)) ∧ m.dropWhile (fun y => !ltRo (keyRo x) (keyRo y)) = m.dropWhile (fun y => ltRo (keyRo y) (keyRo x)) := by
    intro m hm
    induction m with
    | nil => exact ⟨rfl, rfl⟩
    | cons y m ih =>
      have hy := hm y (List.mem_cons_self ..)
      have e1 : (!ltRo (keyRo x) (keyRo y)) = ltRo (keyRo y) (keyRo x) := by
        rcases ltRo_ord.tri _ _ hy with h1 | h1
        · rw [h1, ltRo_ord.asymm h1]; rfl
        · rw [h1, ltRo_ord.asymm h1]; rfl
      have ih' := ih fun z hz => hm z (List.mem_cons_of_mem _ hz)
      rw [List.takeWhile_cons, List.takeWhile_cons, List.dropWhile_cons, List.dropWhile_cons, e1]
      cases ltRo (keyRo y) (keyRo x) with
      | true => simp only [if_true]; exact ⟨by rw [ih'.1], ih'.2⟩
      | false => exact ⟨rfl, rfl⟩
  obtain ⟨e1, e2⟩ := e (delK keyRo l (keyRo x)) fun y hy => (delK_mem.1 hy).2
  rw [e1, e2]
theorem setRo_del (l : List En) (x : En) : setRo l x false = delK keyRo l (keyRo x) := by unfold setRo; rw [if_neg (by simp)]
theorem setRo_ord {l : List En} (h : OrdRo l) (x : En) (keep : Bool) : OrdRo (setRo l x keep) := by
  cases keep with
  | true => rw [setRo_put h]; exact putK_ord ltRo_ord h x
  | false => rw [setRo_del]; exact delK_ord h _
end Sp
end Go.Proofs.Ytpmafghknafhaaa
