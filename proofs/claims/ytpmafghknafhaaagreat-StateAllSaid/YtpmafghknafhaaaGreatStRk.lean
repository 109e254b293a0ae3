/-
A state that came in as an argument: its two rows.
-/
import Derived.Test.YtpmafghknafhaaaGreatRowKit
import Derived.Test.YtpmafghknafhaaaGreatEnRk
import Derived.Test.YtpmafghknafhaaaGreatSeRk
set_option linter.unusedVariables false
set_option linter.unusedSimpArgs false
namespace Go.Proofs.YtpmafghknafhaaaGreat
open Go.RowKit Go.ChangeShapes Go.WideShapes
open Sp
section
variable {H : Type} {enc : TypeId × Value → H} {w : World}
set_option maxRecDepth 100000 in
theorem opT {b0 : Nat} {v : Value} {d : DataW H} {p : List MemPlace} (hv : Value.okWide Tryz.prog w .any b0 25 v)
    (h : DataW.Trod enc Tryz.prog w 0 (fun _ => true) true 25 v d p) : ∃ A n c l B m d s, v = .agg #[.slice A n c, .slice B m d] ∧ Row enEn 7 w (.slice A n c) l ∧ (∀ e ∈ l, OkEn e) ∧ Row enSe 6 w (.slice B m d) s ∧ ∀ e ∈ s, OkSe e := by
  obtain ⟨cs, rfl, _⟩ := okWide_struct Tryz.underlying25 hv
  obtain ⟨fuel, hf⟩ := h
  obtain ⟨l⟩ := cs
  have ck : Tryz.prog.cellsOf 25 = 2 := by kernel_rfl
  have c0_ : Tryz.prog.cellsOf 22 = 1 := by kernel_rfl
  have c1_ : Tryz.prog.cellsOf 23 = 1 := by kernel_rfl
  obtain ⟨ys0, m0, _, _, hl0, hlen0, hf0⟩ := DataW.trod_struct Tryz.underlying25 hf
  rw [ck] at hl0
  simp only [Value.cells] at hl0 hf0
  obtain ⟨a0, a1, rfl⟩ : ∃ a0 a1, l = [a0, a1] := by
    match l, hl0 with
    | [a0, a1], _ => exact ⟨_, _, rfl⟩
  obtain ⟨y0, y1, rfl⟩ : ∃ y0 y1, ys0 = [y0, y1] := by
    match ys0, hlen0 with
    | [y0, y1], _ => exact ⟨_, _, rfl⟩
  have h0 := hf0 0 _ rfl
  have h1 := hf0 1 _ rfl
  simp only [List.getElem_toArray, List.getElem_cons_zero, List.getElem_cons_succ, c0_, c1_, List.drop_zero, List.drop_succ_cons, List.take_succ_cons, List.take_zero, List.getElem?_cons_zero, List.getElem?_cons_succ] at h0 h1
  have g0 : ∃ A n c, a0 = .slice A n c := by
    rcases Go.Deep.open_slice Tryz.underlying22 h0 with ⟨hcs, _⟩ | ⟨ad, len, cap, m, k, D, Pl, hcs, _⟩
    · simp at hcs; exact ⟨_, _, _, hcs⟩
    · simp at hcs; exact ⟨_, _, _, hcs⟩
  have g1 : ∃ A n c, a1 = .slice A n c := by
    rcases Go.Deep.open_slice Tryz.underlying23 h1 with ⟨hcs, _⟩ | ⟨ad, len, cap, m, k, D, Pl, hcs, _⟩
    · simp at hcs; exact ⟨_, _, _, hcs⟩
    · simp at hcs; exact ⟨_, _, _, hcs⟩
  obtain ⟨A, n, c, rfl⟩ := g0
  obtain ⟨B, m, d2, rfl⟩ := g1
  obtain ⟨l1, w1, z1⟩ := rwEn (d := y0.1) (p := y0.2) Tryz.underlying22 ⟨m0, by simpa [Value.cells] using h0⟩
  obtain ⟨l2, w2, z2⟩ := rwSe (d := y1.1) (p := y1.2) Tryz.underlying23 ⟨m0, by simpa [Value.cells] using h1⟩
  exact ⟨A, n, c, l1, B, m, d2, l2, rfl, w1, z1, w2, z2⟩
end
end Go.Proofs.YtpmafghknafhaaaGreat
