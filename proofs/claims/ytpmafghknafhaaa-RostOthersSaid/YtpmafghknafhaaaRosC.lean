/-
Plain laws: when rosters may be, as it is told by counting.
-/
import Derived.Test.YtpmafghknafhaaaRosB
set_option linter.unusedSectionVars false
namespace Go.Proofs.Ytpmafghknafhaaa
namespace Sp
def cntL (l : List ByteArray) (s : ByteArray) : Nat := (l.filter fun x => decide (x = s)).length
theorem cntL_snoc (l : List ByteArray) (s t : ByteArray) : cntL (l ++ [s]) t = cntL l t + (if s = t then 1 else 0) := by
  unfold cntL
  rw [List.filter_append, List.length_append]
  by_cases e : s = t
  · rw [if_pos e, List.filter_cons, if_pos (decide_eq_true e)]; rfl
  · rw [if_neg e, List.filter_cons, if_neg (by simpa using e)]; rfl
theorem cntL_le (l : List ByteArray) (s : ByteArray) : cntL l s ≤ l.length := List.length_filter_le _ _
theorem ofRo_cnt (o : ByteArray) : ∀ l : List En, (ofRo l o).length = cntL (l.map En.o) o
  | [] => rfl
  | x :: l => by
    have ih := ofRo_cnt o l
    unfold ofRo cntL at ih ⊢
    rw [List.length_map] at ih ⊢
    rw [List.map_cons, List.filter_cons, List.filter_cons]
    by_cases e : x.o = o
    · rw [if_pos (decide_eq_true e), if_pos (decide_eq_true e), List.length_cons, List.length_cons, ih]
    · rw [if_neg (by simpa using e), if_neg (by simpa using e), ih]
theorem cntL_take (l : List En) (o : ByteArray) (i : Nat) : cntL ((l.take i).map En.o) o ≤ cntL (l.map En.o) o := by
  unfold cntL
  exact ((List.take_sublist i l).map En.o).filter _ |>.length_le
/-- All of an entry but its place and its owner's count. -/
def condRo (l : List En) (x : En) : Bool :=
  isName x.o && (isName x.c && (!decide (x.o = x.c) && (hasRo l x.c x.o && (fitI x.it (getRo l x.c x.o) && !(emptyI x.it && emptyI (getRo l x.c x.o))))))
theorem oneRo_eq (l : List En) (x : En) : oneRo l x = (condRo l x && decide ((ofRo l x.o).length ≤ 16)) := by
  unfold oneRo condRo
  cases isName x.o <;> cases isName x.c <;> cases decide (x.o = x.c) <;> cases decide ((ofRo l x.o).length ≤ 16) <;> cases hasRo l x.c x.o <;> cases fitI x.it (getRo l x.c x.o) <;> simp
theorem mayRo_no_one {l : List En} {x : En} (hx : x ∈ l) (h : oneRo l x = false) : mayRo l = false := by
  rw [← Bool.not_eq_true, mayRo_iff]
  intro h'
  rw [h'.1 x hx] at h
  cases h
theorem mayRo_no_cond {l : List En} (i : Nat) (hi : i < l.length) (h : condRo l l[i] = false) : mayRo l = false :=
  mayRo_no_one (List.getElem_mem hi) (by rw [oneRo_eq, h]; rfl)
theorem mayRo_no_cnt {l : List En} (i k : Nat) (hi : i < l.length) (h : 16 < cntL ((l.take k).map En.o) l[i].o) : mayRo l = false :=
  mayRo_no_one (List.getElem_mem hi) (by
    rw [oneRo_eq, ofRo_cnt, decide_eq_false (by have := cntL_take l l[i].o k; omega), Bool.and_false])
theorem mayRo_no_adj {l : List En} (i : Nat) (h : i + 1 < l.length) (hn : ltRo (keyRo l[i]) (keyRo l[i + 1]) = false) : mayRo l = false := by
  rw [← Bool.not_eq_true, mayRo_iff]
  intro h'
  rw [h'.2 i h] at hn
  cases hn
theorem mayRo_yes {l : List En} (h1 : ∀ o, cntL (l.map En.o) o ≤ 16) (h2 : ∀ j (h : j < l.length), condRo l l[j] = true) (h3 : ∀ j (h : j + 1 < l.length), ltRo (keyRo l[j]) (keyRo l[j + 1]) = true) : mayRo l = true := by
  rw [mayRo_iff]
  refine ⟨fun s hs => ?_, h3⟩
  obtain ⟨j, hj, rfl⟩ := List.getElem_of_mem hs
  rw [oneRo_eq, h2 j hj, ofRo_cnt, decide_eq_true (h1 _)]
  rfl
end Sp
end Go.Proofs.Ytpmafghknafhaaa
