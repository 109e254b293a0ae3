/-
Events that came in as arguments: one by value, a slice of them.
-/
import Derived.Test.YtobhlcogopcbdaaRowKit
import Derived.Test.YtobhlcogopcbdaaScrO
import Derived.Deep.Slices
set_option linter.unusedVariables false
set_option linter.unusedSimpArgs false
namespace Go.Proofs.Ytobhlcogopcbdaa
open Go.RowKit Go.ChangeShapes Go.WideShapes
open Sp
def EvOk (e : Ev) : Prop := e.u.size ≤ maxLen ∧ e.o.size ≤ maxLen ∧ e.v.2.2.2.size ≤ maxLen
section
variable {H : Type} {enc : TypeId × Value → H} {w : World} {base : Nat} {spare : Nat → Bool} {held : Bool}
set_option maxRecDepth 100000 in
theorem ev_cells {n : Nat} {cs : List Value} {y : DataW H × List MemPlace} (h : DataW.trod enc Try.prog w base spare held n 44 cs = some y) : ∃ e : Ev, cs = enE e ∧ EvOk e := by
  obtain ⟨ys, m, _, _, hl, hlen, hf⟩ := DataW.trod_struct Try.underlying44 h
  have c8 : Try.prog.cellsOf 44 = 8 := by kernel_rfl
  have c4 : Try.prog.cellsOf 42 = 4 := by kernel_rfl
  have ci : Try.prog.cellsOf 3 = 1 := by kernel_rfl
  have cst : Try.prog.cellsOf 9 = 1 := by kernel_rfl
  rw [c8] at hl
  obtain ⟨a0, a1, a2, a3, a4, a5, a6, a7, rfl⟩ : ∃ a0 a1 a2 a3 a4 a5 a6 a7, cs = [a0, a1, a2, a3, a4, a5, a6, a7] := by
    match cs, hl with
    | [a0, a1, a2, a3, a4, a5, a6, a7], _ => exact ⟨_, _, _, _, _, _, _, _, rfl⟩
  obtain ⟨y0, y1, y2, y3, y4, rfl⟩ : ∃ y0 y1 y2 y3 y4, ys = [y0, y1, y2, y3, y4] := by
    match ys, hlen with
    | [y0, y1, y2, y3, y4], _ => exact ⟨_, _, _, _, _, rfl⟩
  have h0 := hf 0 _ rfl
  have h1 := hf 1 _ rfl
  have h2 := hf 2 _ rfl
  have h3 := hf 3 _ rfl
  have h4 := hf 4 _ rfl
  simp only [List.getElem_toArray, List.getElem_cons_zero, List.getElem_cons_succ, ci, cst, c4, List.drop_zero, List.drop_succ_cons, List.take_succ_cons, List.take_zero, List.getElem?_cons_zero, List.getElem?_cons_succ] at h0 h1 h2 h3 h4
  obtain ⟨z0, e0, _, _⟩ := DataW.trod_int Try.underlying3 h0
  obtain ⟨z1, e1, _, g1⟩ := DataW.trod_string Try.underlying9 h1
  obtain ⟨z2, e2, _, g2⟩ := DataW.trod_string Try.underlying9 h2
  obtain ⟨z3, e3, _, _⟩ := DataW.trod_int Try.underlying3 h3
  obtain ⟨xs, m', _, _, hl', hlen', hf'⟩ := DataW.trod_struct Try.underlying42 h4
  obtain ⟨x0, x1, x2, x3, rfl⟩ : ∃ x0 x1 x2 x3, xs = [x0, x1, x2, x3] := by
    match xs, hlen' with
    | [x0, x1, x2, x3], _ => exact ⟨_, _, _, _, rfl⟩
  have k0 := hf' 0 _ rfl
  have k1 := hf' 1 _ rfl
  have k2 := hf' 2 _ rfl
  have k3 := hf' 3 _ rfl
  simp only [List.getElem_toArray, List.getElem_cons_zero, List.getElem_cons_succ, ci, cst, List.drop_zero, List.drop_succ_cons, List.take_succ_cons, List.take_zero, List.getElem?_cons_zero, List.getElem?_cons_succ] at k0 k1 k2 k3
  obtain ⟨z4, e4, _, _⟩ := DataW.trod_int Try.underlying3 k0
  obtain ⟨z5, e5, _, _⟩ := DataW.trod_int Try.underlying3 k1
  obtain ⟨z6, e6, _, _⟩ := DataW.trod_int Try.underlying3 k2
  obtain ⟨z7, e7, _, g7⟩ := DataW.trod_string Try.underlying9 k3
  cases e0
  cases e1
  cases e2
  cases e3
  cases e4
  cases e5
  cases e6
  cases e7
  exact ⟨⟨z0, z1, z2, z3, z4, z5, z6, z7⟩, rfl, g1, g2, g7⟩
theorem events_row {t : TypeId} {a : Option Addr} {n c : Nat} {d : DataW H} {p : List MemPlace} (ht : Try.prog.underlying t = some (.slice 44))
    (h : DataW.Trod enc Try.prog w 0 (fun _ => true) true t (.slice a n c) d p) : ∃ l, Row enE 8 w (.slice a n c) l ∧ ∀ e ∈ l, EvOk e := by
  obtain ⟨fuel, hf⟩ := h
  rcases Go.Deep.open_slice ht hf with ⟨hcs, _⟩ | ⟨ad, len, cap, m, k, D, Pl, hcs, _, hl, hm, hmm, _, hi⟩
  · simp [Value.cells] at hcs
    obtain ⟨rfl, rfl, rfl⟩ := hcs
    exact ⟨[], Row.nil _ _ _, by simp⟩
  · simp [Value.cells] at hcs
    obtain ⟨rfl, rfl, rfl⟩ := hcs
    have c8 : Try.prog.cellsOf 44 = 8 := by kernel_rfl
    rw [c8] at hi
    have hn : n ≤ m := by rw [hmm, if_pos rfl]; exact hl
    have hev : ∀ i, i < n → ∃ e : Ev, EvOk e ∧ ∀ j u, (enE e)[j]? = some u → w.cell? (ad.add (i * 8 + j)) = some u := by
      intro i hi'
      obtain ⟨cs', hc, ht'⟩ := hi i (by omega)
      obtain ⟨e, rfl, he⟩ := ev_cells ht'
      obtain ⟨_, _, hat⟩ := World.cells?_some hc
      refine ⟨e, he, fun j u hj => ?_⟩
      have hj8 : j < 8 := (List.getElem?_eq_some_iff.1 hj).1
      have := hat j hj8
      rw [hj] at this
      rw [← this, Go.Deep.add_add]
    have hex : ∃ l : List Ev, l.length = n ∧ ∀ i (h : i < l.length), EvOk l[i] ∧ ∀ j u, (enE l[i])[j]? = some u → w.cell? (ad.add (i * 8 + j)) = some u := by
      refine ⟨List.ofFn (fun i : Fin n => (hev i.1 i.2).choose), by simp, fun i h => ?_⟩
      have hin : i < n := by simpa using h
      have hc := (hev i hin).choose_spec
      simp only [List.getElem_ofFn]
      exact hc
    obtain ⟨l, hln, hle⟩ := hex
    refine ⟨l, ⟨some ad, c, by rw [hln], by omega, hm, by rw [flat_length enE_len, hln], fun hp => ⟨ad, rfl, fun j u hu => ?_⟩⟩, fun e he => ?_⟩
    · have hj : j < l.length * 8 := by rw [← flat_length enE_len]; exact (List.getElem?_eq_some_iff.1 hu).1
      have hi8 : j / 8 < l.length := by omega
      have := (hle (j / 8) hi8).2 (j % 8) u
      rw [show j / 8 * 8 + j % 8 = j by omega] at this
      refine this ?_
      have hfg := flat_get enE_len l (j / 8) (j % 8) hi8 (by omega)
      rw [show j / 8 * 8 + j % 8 = j by omega] at hfg
      rw [← hfg, hu]
    · obtain ⟨i, hi', rfl⟩ := List.getElem_of_mem he
      exact (hle i hi').1
set_option maxRecDepth 100000 in
theorem event_open {b0 : Nat} {v : Value} {d : DataW H} {p : List MemPlace} (hv : Value.okWide Try.prog w .any b0 44 v)
    (h : DataW.Trod enc Try.prog w 0 (fun _ => true) true 44 v d p) : ∃ e : Ev, v = evV e ∧ EvOk e := by
  obtain ⟨cs, rfl, _⟩ := okWide_struct Try.underlying44 hv
  obtain ⟨fuel, hf⟩ := h
  obtain ⟨e, he, hok⟩ := ev_cells hf
  refine ⟨e, ?_, hok⟩
  obtain ⟨l⟩ := cs
  have hl : l = enE e := by simpa [Value.cells] using he
  rw [hl]
  rfl
end
end Go.Proofs.Ytobhlcogopcbdaa
