/-
Contracts: a strings.Builder that the call itself has made: written, and read.
-/
import Derived.Test.YtpmafghknafhaaaShelf
import Derived.Test.YtpmafghknafhaaaVarA
namespace Go.Proofs.Ytpmafghknafhaaa
open Go.RowKit Sp

theorem TextRow.kept {e : TypeId} {w w' : World} {k b n : Nat} {s : ByteArray} (h : TextRow e w k s) (hK : KeepsMarked b n w w') (hkb : k ≠ b) (hn : n ≤ s.size) : TextRow e w' k s := by
  refine h.keep ?_
  obtain ⟨cs, h1, h2, _⟩ := h
  exact hK k cs e _ hkb h1 (by simp; omega)
theorem BuilderAtF_later {T e : TypeId} {B b : Nat} {p : Value} {bs : List Value} {w w' : World} (h : Lib.BuilderAtF T e B b p bs w) (hk : ∀ k, k < w.heap.size → w'.heap[k]? = w.heap[k]?) : Lib.BuilderAtF T e B b p bs w' := by
  obtain ⟨hB, v, hb, hown, hne⟩ := h
  refine ⟨hB, v, (hk b (Array.getElem?_eq_some_iff.1 hb).1).trans hb, ⟨hown.1, ?_⟩, hne⟩
  rcases hown.2 with h | ⟨g, cap, cur, fz, hv, hg, hh, r⟩
  · exact .inl h
  · exact .inr ⟨g, cap, cur, fz, hv, hg, (hk g (Array.getElem?_eq_some_iff.1 hh).1).trans hh, r⟩
end Go.Proofs.Ytpmafghknafhaaa
