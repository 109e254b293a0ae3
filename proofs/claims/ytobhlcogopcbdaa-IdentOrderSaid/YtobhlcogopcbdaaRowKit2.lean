/-
An array of three strings that came in as an argument.
-/
import Derived.Test.YtobhlcogopcbdaaRowKit
import Derived.Laws.IdiomArrays
namespace Go.Proofs.Ytobhlcogopcbdaa
open Go.RowKit Go.ChangeShapes Go.WideShapes

section
variable {H : Type} {enc : TypeId × Value → H} {P : Program} {w : World}
theorem arr3_strings {t e : TypeId} {base : Nat} {v : Value} {d : DataW H} {p : List MemPlace} (ht : P.underlying t = some (.array 3 e)) (he : P.underlying e = some .string) (hc : P.cellsOf e = 1) (hct : P.cellsOf t = 3)
    (hv : Value.okWide P w .any base t v) (h : DataW.Trod enc P w 0 (fun _ => true) true t v d p) : ∃ a b c, v = .agg #[.string a, .string b, .string c] := by
  obtain ⟨cs, rfl, hsz, _⟩ : ∃ cs, v = .agg cs ∧ cs.size = P.cellsOf t ∧ Row.okWide P w .any base t cs := by
    simpa [Value.okWide, ht] using hv
  rw [hct] at hsz
  obtain ⟨l⟩ := cs
  obtain ⟨c0, c1, c2, rfl⟩ : ∃ c0 c1 c2, l = [c0, c1, c2] := by
    match l, hsz with
    | [c0, c1, c2], _ => exact ⟨c0, c1, c2, rfl⟩
  obtain ⟨fuel, hf⟩ := h
  obtain ⟨y0, y1, y2, m, hx, hy0, hy1, hy2⟩ := trod_array3 ht hc hf
  obtain ⟨x0, e0, rfl, _⟩ := DataW.trod_string he hy0
  obtain ⟨x1, e1, rfl, _⟩ := DataW.trod_string he hy1
  obtain ⟨x2, e2, rfl, _⟩ := DataW.trod_string he hy2
  simp at e0 e1 e2
  subst e0 e1 e2
  exact ⟨_, _, _, rfl⟩
end
end Go.Proofs.Ytobhlcogopcbdaa
