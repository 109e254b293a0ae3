/-
Plain definitions: a state, an event, what comes of it (layer 14); and what comes of many.
-/
import Derived.Test.YtpmafghknafhaaaGreatRosA
import Derived.Test.YtpmafghknafhaaaGreatSesA
set_option linter.unusedSectionVars false
set_option linter.unusedVariables false
set_option linter.unusedSimpArgs false
namespace Go.Proofs.YtpmafghknafhaaaGreat
namespace Sp
structure Evt where
  k : Int
  u : ByteArray
  o : ByteArray
  i : Int
  v : Int × Int × Int × ByteArray
instance : DecidableEq Evt := fun a b => decidable_of_iff (a.k = b.k ∧ a.u = b.u ∧ a.o = b.o ∧ a.i = b.i ∧ a.v = b.v) ⟨fun h => by cases a; cases b; simp only at h; obtain ⟨h1, h2, h3, h4, h5⟩ := h; subst h1 h2 h3 h4 h5; rfl, fun h => by subst h; exact ⟨rfl, rfl, rfl, rfl, rfl⟩⟩
abbrev Sta := List En × List Se
def mayT (s : Sta) : Bool := mayRo s.1 && maySe s.2
def applyT (s : Sta) (e : Evt) : Sta × Int :=
  if mayT s = false then (s, 1)
  else if 1 ≤ e.k ∧ e.k ≤ 6 then (((doRo s.1 e.k e.u e.o).1, s.2), (doRo s.1 e.k e.u e.o).2)
  else if e.k = 7 then ((s.1, (putSe s.2 ⟨e.u, e.i, e.v⟩).1), (putSe s.2 ⟨e.u, e.i, e.v⟩).2)
  else if e.k = 8 then ((s.1, (dropSe s.2 (e.u, e.i)).1), (dropSe s.2 (e.u, e.i)).2)
  else (s, 1)
def allT : Sta → List Evt → Sta × List Int
  | s, [] => (s, [])
  | s, e :: l => ((allT (applyT s e).1 l).1, (applyT s e).2 :: (allT (applyT s e).1 l).2)
def touchT (e : Evt) : List ByteArray := if 1 ≤ e.k ∧ e.k ≤ 6 then mergeS [e.u] [e.o] else if e.k = 7 ∨ e.k = 8 then [e.u] else []
def shortE (e : Evt) : Bool := decide (e.u.size ≤ 40) && (decide (e.o.size ≤ 40) && decide (e.v.2.2.2.size ≤ 60))
def eventsT (l : List Evt) (n : Int) : Bool := decide ((l.length : Int) ≤ n) && l.all shortE
theorem dropSe_err {l m : List Se} {k : SeK} {e : Int} (h : dropSe l k = (m, e)) (he : e ≠ 0) : m = l := by
  unfold dropSe at h
  split at h
  · injection h with h1 h2; exact h1.symm
  · split at h
    · injection h with h1 h2; exact absurd h2.symm he
    · injection h with h1 h2; exact h1.symm
theorem applyT_err {s t : Sta} {e : Evt} {d : Int} (h : applyT s e = (t, d)) (hd : d ≠ 0) : t = s := by
  obtain ⟨a, b⟩ := s
  unfold applyT at h
  split at h
  · injection h with h1 h2; exact h1.symm
  · split at h
    · injection h with h1 h2
      rw [← h1]
      exact Prod.ext (doRo_err (l := a) (r := (doRo a e.k e.u e.o).1) (e := (doRo a e.k e.u e.o).2) rfl (by simp only at h2; rw [h2]; exact hd)) rfl
    · split at h
      · injection h with h1 h2
        rw [← h1]
        exact Prod.ext rfl (putSe_err (l := b) (m := (putSe b ⟨e.u, e.i, e.v⟩).1) (e := (putSe b ⟨e.u, e.i, e.v⟩).2) rfl (by simp only at h2; rw [h2]; exact hd))
      · split at h
        · injection h with h1 h2
          rw [← h1]
          exact Prod.ext rfl (dropSe_err (l := b) (m := (dropSe b (e.u, e.i)).1) (e := (dropSe b (e.u, e.i)).2) rfl (by simp only at h2; rw [h2]; exact hd))
        · injection h with h1 h2; exact h1.symm
theorem allT_len (s : Sta) (l : List Evt) : (allT s l).2.length = l.length := by
  induction l generalizing s with
  | nil => rfl
  | cons e l ih => simp only [allT, List.length_cons, ih]
theorem allT_app (s : Sta) (l m : List Evt) : allT s (l ++ m) = ((allT (allT s l).1 m).1, (allT s l).2 ++ (allT (allT s l).1 m).2) := by
  induction l generalizing s with
  | nil => rfl
  | cons e l ih => simp only [List.cons_append, allT, ih]
theorem allT_snoc (s : Sta) (l : List Evt) (e : Evt) : allT s (l ++ [e]) = ((applyT (allT s l).1 e).1, (allT s l).2 ++ [(applyT (allT s l).1 e).2]) := by rw [allT_app]; rfl
/-- Those of events that are told 0. -/
def goodT : List Evt → List Int → List Evt
  | e :: l, x :: xs => if x = 0 then e :: goodT l xs else goodT l xs
  | _, _ => []
theorem goodT_len : ∀ (l : List Evt) (x : List Int), (goodT l x).length ≤ l.length
  | [], x => by cases x <;> simp [goodT]
  | e :: l, [] => by simp [goodT]
  | e :: l, y :: ys => by
    have ih := goodT_len l ys
    unfold goodT
    split <;> simp only [List.length_cons] <;> omega
theorem allT_good (s : Sta) (l : List Evt) : (allT s (goodT l (allT s l).2)).1 = (allT s l).1 ∧ ∀ x ∈ (allT s (goodT l (allT s l).2)).2, x = 0 := by
  induction l generalizing s with
  | nil => exact ⟨rfl, by simp [allT, goodT]⟩
  | cons e l ih =>
    simp only [allT, goodT]
    split
    · rename_i h0
      have := ih (applyT s e).1
      simp only [allT]
      refine ⟨this.1, fun x hx => ?_⟩
      rcases List.mem_cons.1 hx with rfl | hx
      · exact h0
      · exact this.2 x hx
    · rename_i h0
      have e1 : (applyT s e).1 = s := applyT_err (t := (applyT s e).1) (d := (applyT s e).2) rfl h0
      rw [e1]
      exact ih s
theorem goodT_snoc (l : List Evt) (x : List Int) (hl : l.length = x.length) (e : Evt) (y : Int) : goodT (l ++ [e]) (x ++ [y]) = goodT l x ++ (if y = 0 then [e] else []) := by
  induction l generalizing x with
  | nil =>
    have hx : x = [] := by
      cases x with
      | nil => rfl
      | cons a b => simp at hl
    subst hx
    show goodT [e] [y] = _
    simp only [goodT]
    split <;> simp
  | cons a l ih =>
    match x, hl with
    | b :: x, hl =>
      simp only [List.cons_append, goodT]
      rw [ih x (by simpa using hl)]
      split <;> simp
end Sp
end Go.Proofs.YtpmafghknafhaaaGreat
