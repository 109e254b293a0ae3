/-
What is known of a memory and is still known behind a call and behind a draw: one fact in the place of many.
-/
import Derived.Test.YtocdoddmaopdbaaWk
set_option linter.unusedVariables false
set_option linter.unusedSimpArgs false
namespace Go.Proofs.Ytocdoddmaopdbaa
open Go.RowKit
structure Kept (P : World → Prop) : Prop where
  below : ∀ {w w1 : World}, P w → Below w.heap.size w w1 → P w1
  drew : ∀ {w : World}, P w → P w.drew
theorem Kept.row {α : Type} {enc : α → List Value} {k : Nat} {v : Value} {xs : List α} : Kept (fun w => Row enc k w v xs) := ⟨fun h b => h.below b, fun h => h⟩
theorem Kept.own {α : Type} {enc : α → List Value} {k : Nat} {e : TypeId} {base : Nat} {v : Value} {xs : List α} : Kept (fun w => Own enc k e w base v xs) := ⟨fun h b => h.below b, fun h => h⟩
theorem Kept.heap {g : Nat} {o : Obj} : Kept (fun w => w.heap[g]? = some o) := ⟨fun h b => hcall h b, fun h => h⟩
theorem Kept.cell {a : Addr} {v : Value} : Kept (fun w => w.cell? a = some v) := ⟨fun h b => cell_below b h, fun h => h⟩
theorem Kept.from_ {w0 : World} : Kept (fun w => Below w0.heap.size w0 w) := ⟨fun h b => below_call h b, fun h => h.drew⟩
theorem Kept.lt {n : Nat} : Kept (fun w => n < w.heap.size) := ⟨fun h b => Nat.lt_of_lt_of_le h b.size, fun h => h⟩
theorem Kept.and {P Q : World → Prop} (h : Kept P) (k : Kept Q) : Kept (fun w => P w ∧ Q w) := ⟨fun x b => ⟨h.below x.1 b, k.below x.2 b⟩, fun x => ⟨h.drew x.1, k.drew x.2⟩⟩
theorem Kept.alloc {P : World → Prop} (h : Kept P) {w : World} (x : P w) (o : Obj) : P (w.alloc o) := h.below x (below_box o)
theorem Kept.pack {Q : World → Prop} (h : Kept Q) {w : World} (hq : Q w) : ∃ P : World → Prop, P w ∧ Kept P ∧ ∀ w', P w' → Q w' := ⟨Q, hq, h, fun _ h => h⟩
end Go.Proofs.Ytocdoddmaopdbaa
