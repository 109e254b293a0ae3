/-
Values of 'Op' that came in as arguments: one by value, a slice of them.
-/
import Derived.Test.YtocdoddmaopdbaaRowKit
import Derived.Test.YtocdoddmaopdbaaOpSt
import Derived.Deep.Slices
set_option linter.unusedVariables false
set_option linter.unusedSimpArgs false
namespace Go.Proofs.Ytocdoddmaopdbaa
open Go.RowKit Go.ChangeShapes Go.WideShapes
open Sp
def OkOp (x : OpI) : Prop := x.w.size ≤ maxLen ∧ x.c.size ≤ maxLen
section
variable {H : Type} {enc : TypeId × Value → H} {w : World} {base : Nat} {spare : Nat → Bool} {held : Bool}
set_option maxRecDepth 100000 in
theorem ceOp {n : Nat} {cs : List Value} {y : DataW H × List MemPlace} (h : DataW.trod enc Try.prog w base spare held n 32 cs = some y) : ∃ e : OpI, cs = enOp e ∧ OkOp e := by
  have ck : Try.prog.cellsOf 32 = 3 := by kernel_rfl
  have c0_ : Try.prog.cellsOf 3 = 1 := by kernel_rfl
  have c1_ : Try.prog.cellsOf 9 = 1 := by kernel_rfl
  obtain ⟨ys0, m0, _, _, hl0, hlen0, hf0⟩ := DataW.trod_struct Try.underlying32 h
  rw [ck] at hl0
  obtain ⟨a0, a1, a2, rfl⟩ : ∃ a0 a1 a2, cs = [a0, a1, a2] := by
    match cs, hl0 with
    | [a0, a1, a2], _ => exact ⟨_, _, _, rfl⟩
  obtain ⟨y0_0, y0_1, y0_2, rfl⟩ : ∃ y0_0 y0_1 y0_2, ys0 = [y0_0, y0_1, y0_2] := by
    match ys0, hlen0 with
    | [y0_0, y0_1, y0_2], _ => exact ⟨_, _, _, rfl⟩
  have h0_0 := hf0 0 _ rfl
  have h0_1 := hf0 1 _ rfl
  have h0_2 := hf0 2 _ rfl
  simp only [List.getElem_toArray, List.getElem_cons_zero, List.getElem_cons_succ, c0_, c1_, List.drop_zero, List.drop_succ_cons, List.take_succ_cons, List.take_zero, List.getElem?_cons_zero, List.getElem?_cons_succ] at h0_0 h0_1 h0_2
  obtain ⟨z0, e0, _, g0⟩ := DataW.trod_int Try.underlying3 h0_0
  obtain ⟨z1, e1, _, g1⟩ := DataW.trod_string Try.underlying9 h0_1
  obtain ⟨z2, e2, _, g2⟩ := DataW.trod_string Try.underlying9 h0_2
  cases e0
  cases e1
  cases e2
  exact ⟨⟨z0, z1, z2⟩, rfl, g1, g2⟩
theorem rwOp {t : TypeId} {a : Option Addr} {n c : Nat} {d : DataW H} {p : List MemPlace} (ht : Try.prog.underlying t = some (.slice 32))
    (h : DataW.Trod enc Try.prog w 0 (fun _ => true) true t (.slice a n c) d p) : ∃ l, Row enOp 3 w (.slice a n c) l ∧ ∀ e ∈ l, OkOp e := by
  obtain ⟨fuel, hf⟩ := h
  rcases Go.Deep.open_slice ht hf with ⟨hcs, _⟩ | ⟨ad, len, cap, m, k, D, Pl, hcs, _, hl, hm, hmm, _, hi⟩
  · simp [Value.cells] at hcs
    obtain ⟨rfl, rfl, rfl⟩ := hcs
    exact ⟨[], Row.nil _ _ _, by simp⟩
  · simp [Value.cells] at hcs
    obtain ⟨rfl, rfl, rfl⟩ := hcs
    have ck : Try.prog.cellsOf 32 = 3 := by kernel_rfl
    rw [ck] at hi
    have hn : n ≤ m := by rw [hmm, if_pos rfl]; exact hl
    have hev : ∀ i, i < n → ∃ e : OpI, OkOp e ∧ ∀ j u, (enOp e)[j]? = some u → w.cell? (ad.add (i * 3 + j)) = some u := by
      intro i hi'
      obtain ⟨cs', hc, ht'⟩ := hi i (by omega)
      obtain ⟨e, rfl, he⟩ := ceOp ht'
      obtain ⟨_, _, hat⟩ := World.cells?_some hc
      refine ⟨e, he, fun j u hj => ?_⟩
      have hj8 : j < 3 := (List.getElem?_eq_some_iff.1 hj).1
      have := hat j hj8
      rw [hj] at this
      rw [← this, Go.Deep.add_add]
    have hex : ∃ l : List OpI, l.length = n ∧ ∀ i (h : i < l.length), OkOp l[i] ∧ ∀ j u, (enOp l[i])[j]? = some u → w.cell? (ad.add (i * 3 + j)) = some u := by
      refine ⟨List.ofFn (fun i : Fin n => (hev i.1 i.2).choose), by simp, fun i h => ?_⟩
      have hin : i < n := by simpa using h
      have hc := (hev i hin).choose_spec
      simp only [List.getElem_ofFn]
      exact hc
    obtain ⟨l, hln, hle⟩ := hex
    refine ⟨l, ⟨some ad, c, by rw [hln], by omega, hm, by rw [flat_length enOp_len, hln], fun hp => ⟨ad, rfl, fun j u hu => ?_⟩⟩, fun e he => ?_⟩
    · have hj : j < l.length * 3 := by rw [← flat_length enOp_len]; exact (List.getElem?_eq_some_iff.1 hu).1
      have hi8 : j / 3 < l.length := by omega
      have := (hle (j / 3) hi8).2 (j % 3) u
      rw [show j / 3 * 3 + j % 3 = j by omega] at this
      refine this ?_
      have hfg := flat_get enOp_len l (j / 3) (j % 3) hi8 (by omega)
      rw [show j / 3 * 3 + j % 3 = j by omega] at hfg
      rw [← hfg, hu]
    · obtain ⟨i, hi', rfl⟩ := List.getElem_of_mem he
      exact (hle i hi').1
set_option maxRecDepth 100000 in
theorem opOp {b0 : Nat} {v : Value} {d : DataW H} {p : List MemPlace} (hv : Value.okWide Try.prog w .any b0 32 v)
    (h : DataW.Trod enc Try.prog w 0 (fun _ => true) true 32 v d p) : ∃ e : OpI, v = vaOp e ∧ OkOp e := by
  obtain ⟨cs, rfl, _⟩ := okWide_struct Try.underlying32 hv
  obtain ⟨fuel, hf⟩ := h
  obtain ⟨e, he, hok⟩ := ceOp hf
  refine ⟨e, ?_, hok⟩
  obtain ⟨l⟩ := cs
  have hl : l = enOp e := by simpa [Value.cells] using he
  rw [hl]
  rfl
end
end Go.Proofs.Ytocdoddmaopdbaa
