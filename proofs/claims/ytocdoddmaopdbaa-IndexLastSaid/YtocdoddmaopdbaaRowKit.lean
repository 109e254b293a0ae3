/-
Slices that came in as arguments, read as rows: of strings, of integers.
-/
import Derived.Test.YtocdoddmaopdbaaIdentD
import Derived.SliceStrings
import Derived.ChangeSlices
import Derived.OpenShut
import Derived.ChangeOld
namespace Go.Proofs.Ytocdoddmaopdbaa
open Go.RowKit Go.ChangeShapes Go.WideShapes

def enK (k : IntKind) (z : Int) : List Value := [.int k z]
theorem enK_len (k : IntKind) (z : Int) : (enK k z).length = 1 := rfl

theorem flat_one {α : Type} (f : α → Value) (l : List α) : l.flatMap (fun x => [f x]) = l.map f := by
  induction l with
  | nil => rfl
  | cons a l ih => simp [ih]
theorem row_of_cells {α : Type} (f : α → Value) (d : α) (w : World) (a : Addr) (n c : Nat) (l : List α) (hn : n ≤ c) (hc : c ≤ maxLen) (hl : l.length = c) (h : ∀ i, i < l.length → w.cell? (a.add i) = some (f (l.getD i d))) :
    Row (fun x => [f x]) 1 w (.slice (some a) n c) (l.take n) := by
  have hlen : (l.take n).length = n := by simp; omega
  refine ⟨some a, c, by rw [hlen], by omega, hc, by rw [flat_one]; simp, fun _ => ⟨a, rfl, fun j u hj => ?_⟩⟩
  rw [flat_one, List.getElem?_map] at hj
  obtain ⟨x, hx, rfl⟩ := Option.map_eq_some_iff.mp hj
  have hjl : j < (l.take n).length := by
    rcases Nat.lt_or_ge j (l.take n).length with h | h
    · exact h
    · rw [List.getElem?_eq_none h] at hx; cases hx
  rw [h j (by omega)]
  rw [List.getElem?_take] at hx
  split at hx
  · rw [List.getD_eq_getElem?_getD, hx]; rfl
  · cases hx

section
variable {H : Type} {enc : TypeId × Value → H} {P : Program} {w : World}
theorem strings_row {t e : TypeId} {a : Option Addr} {n c : Nat} {d : DataW H} {p : List MemPlace} (ht : P.underlying t = some (.slice e)) (he : P.underlying e = some .string) (hc : P.cellsOf e = 1)
    (h : DataW.Trod enc P w 0 (fun _ => true) true t (.slice a n c) d p) : ∃ l, Row enS 1 w (.slice a n c) l ∧ ∀ s ∈ l, s.size ≤ maxLen := by
  obtain ⟨fuel, hf⟩ := h
  rcases open_strings ht he hc hf with ⟨hcs, _⟩ | ⟨x, l, c', ss, hcs, _, hl, hm, hz, _, hcell, hw⟩
  · simp [Value.cells] at hcs
    obtain ⟨rfl, rfl, rfl⟩ := hcs
    exact ⟨[], Row.nil _ _ _, by simp⟩
  · simp [Value.cells] at hcs
    obtain ⟨rfl, rfl, rfl⟩ := hcs
    exact ⟨ss.take n, row_of_cells Value.string _ w _ _ _ ss hl hm (by simpa using hz) hcell, fun s hs => hw s (List.mem_of_mem_take hs)⟩
theorem ints_row {t e : TypeId} {k : IntKind} {a : Option Addr} {n c : Nat} {d : DataW H} {p : List MemPlace} (ht : P.underlying t = some (.slice e)) (he : P.underlying e = some (.int k)) (hc : P.cellsOf e = 1)
    (h : DataW.Trod enc P w 0 (fun _ => true) true t (.slice a n c) d p) : ∃ l, Row (enK k) 1 w (.slice a n c) l ∧ ∀ z ∈ l, (Lit.int k z).wf = true := by
  obtain ⟨fuel, hf⟩ := h
  rcases open_ints ht he hc hf with ⟨hcs, _⟩ | ⟨x, l, c', ss, hcs, _, hl, hm, hz, _, hcell, hw⟩
  · simp [Value.cells] at hcs
    obtain ⟨rfl, rfl, rfl⟩ := hcs
    exact ⟨[], Row.nil _ _ _, by simp⟩
  · simp [Value.cells] at hcs
    obtain ⟨rfl, rfl, rfl⟩ := hcs
    exact ⟨ss.take n, row_of_cells (Value.int k) _ w _ _ _ ss hl hm (by simpa using hz) hcell, fun s hs => hw s (List.mem_of_mem_take hs)⟩
end
end Go.Proofs.Ytocdoddmaopdbaa
