/-
An array of three strings that came in as an argument.
-/
import Derived.Test.YtpmafghknafhaaaGreatRowKit
import Derived.Laws.IdiomArrays
import Derived.OpenShut
namespace Go.Proofs.YtpmafghknafhaaaGreat
open Go.RowKit Go.ChangeShapes Go.WideShapes

section
variable {H : Type} {enc : TypeId × Value → H} {P : Program} {w : World}
theorem arr3_strings {t e : TypeId} {base : Nat} {v : Value} {d : DataW H} {p : List MemPlace} (ht : P.underlying t = some (.array 3 e)) (he : P.underlying e = some .string) (hc : P.cellsOf e = 1) (hct : P.cellsOf t = 3)
    (hv : Value.okWide P w .any base t v) (h : DataW.Trod enc P w 0 (fun _ => true) true t v d p) : ∃ a b c, v = .agg #[.string a, .string b, .string c] := by
  obtain ⟨cs, rfl, hsz, _⟩ : ∃ cs, v = .agg cs ∧ cs.size = P.cellsOf t ∧ Row.okWide P w .any base t cs := by
    simpa [Value.okWide, ht] using hv
  rw [hct] at hsz
  obtain ⟨l⟩ := cs
  obtain ⟨c0, c1, c2, rfl⟩ : ∃ c0 c1 c2, l = [c0, c1, c2] := by
    match l, hsz with
    | [c0, c1, c2], _ => exact ⟨c0, c1, c2, rfl⟩
  obtain ⟨fuel, hf⟩ := h
  obtain ⟨y0, y1, y2, m, hx, hy0, hy1, hy2⟩ := trod_array3 ht hc hf
  obtain ⟨x0, e0, rfl, _⟩ := DataW.trod_string he hy0
  obtain ⟨x1, e1, rfl, _⟩ := DataW.trod_string he hy1
  obtain ⟨x2, e2, rfl, _⟩ := DataW.trod_string he hy2
  simp at e0 e1 e2
  subst e0 e1 e2
  exact ⟨_, _, _, rfl⟩
theorem arr2_strings {t e : TypeId} {base : Nat} {v : Value} {d : DataW H} {p : List MemPlace} (ht : P.underlying t = some (.array 2 e)) (he : P.underlying e = some .string) (hc : P.cellsOf e = 1) (hct : P.cellsOf t = 2)
    (hv : Value.okWide P w .any base t v) (h : DataW.Trod enc P w 0 (fun _ => true) true t v d p) : ∃ a b, v = .agg #[.string a, .string b] := by
  obtain ⟨cs, rfl, hsz, _⟩ : ∃ cs, v = .agg cs ∧ cs.size = P.cellsOf t ∧ Row.okWide P w .any base t cs := by
    simpa [Value.okWide, ht] using hv
  rw [hct] at hsz
  obtain ⟨l⟩ := cs
  obtain ⟨c0, c1, rfl⟩ : ∃ c0 c1, l = [c0, c1] := by
    match l, hsz with
    | [c0, c1], _ => exact ⟨c0, c1, rfl⟩
  obtain ⟨fuel, hf⟩ := h
  obtain ⟨ys, m, _, _, _, hlen, hg⟩ := DataW.trod_array ht hf
  have h0 := hg 0 (by omega)
  have h1 := hg 1 (by omega)
  obtain ⟨y0, y1, rfl⟩ : ∃ y0 y1, ys = [y0, y1] := by
    match ys, hlen with
    | [y0, y1], _ => exact ⟨_, _, rfl⟩
  simp [hc, Value.cells] at h0 h1
  obtain ⟨x0, e0, _, _⟩ := DataW.trod_string he h0
  obtain ⟨x1, e1, _, _⟩ := DataW.trod_string he h1
  simp at e0 e1
  subst e0 e1
  exact ⟨_, _, rfl⟩
end
end Go.Proofs.YtpmafghknafhaaaGreat
