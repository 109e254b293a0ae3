/-
Values of 'Entry' that came in as arguments: one by value, a slice of them.
-/
import Derived.Test.YtpmafghknafhaaaGreatRowKit
import Derived.Test.YtpmafghknafhaaaGreatEnSt
import Derived.Deep.Slices
set_option linter.unusedVariables false
set_option linter.unusedSimpArgs false
namespace Go.Proofs.YtpmafghknafhaaaGreat
open Go.RowKit Go.ChangeShapes Go.WideShapes
open Sp
def OkEn (x : En) : Prop := x.o.size ≤ maxLen ∧ x.c.size ≤ maxLen
section
variable {H : Type} {enc : TypeId × Value → H} {w : World} {base : Nat} {spare : Nat → Bool} {held : Bool}
set_option maxRecDepth 100000 in
theorem ceEn {n : Nat} {cs : List Value} {y : DataW H × List MemPlace} (h : DataW.trod enc Tryz.prog w base spare held n 67 cs = some y) : ∃ e : En, cs = enEn e ∧ OkEn e := by
  have ck : Tryz.prog.cellsOf 67 = 7 := by kernel_rfl
  have c0_ : Tryz.prog.cellsOf 9 = 1 := by kernel_rfl
  have c1_ : Tryz.prog.cellsOf 51 = 5 := by kernel_rfl
  have c2_ : Tryz.prog.cellsOf 4 = 1 := by kernel_rfl
  obtain ⟨ys0, m0, _, _, hl0, hlen0, hf0⟩ := DataW.trod_struct Tryz.underlying67 h
  rw [ck] at hl0
  obtain ⟨a0, a1, a2, a3, a4, a5, a6, rfl⟩ : ∃ a0 a1 a2 a3 a4 a5 a6, cs = [a0, a1, a2, a3, a4, a5, a6] := by
    match cs, hl0 with
    | [a0, a1, a2, a3, a4, a5, a6], _ => exact ⟨_, _, _, _, _, _, _, rfl⟩
  obtain ⟨y0_0, y0_1, y0_2, rfl⟩ : ∃ y0_0 y0_1 y0_2, ys0 = [y0_0, y0_1, y0_2] := by
    match ys0, hlen0 with
    | [y0_0, y0_1, y0_2], _ => exact ⟨_, _, _, rfl⟩
  have h0_0 := hf0 0 _ rfl
  have h0_1 := hf0 1 _ rfl
  have h0_2 := hf0 2 _ rfl
  simp only [List.getElem_toArray, List.getElem_cons_zero, List.getElem_cons_succ, c0_, c1_, c2_, List.drop_zero, List.drop_succ_cons, List.take_succ_cons, List.take_zero, List.getElem?_cons_zero, List.getElem?_cons_succ] at h0_0 h0_1 h0_2
  obtain ⟨z0, e0, _, g0⟩ := DataW.trod_string Tryz.underlying9 h0_0
  obtain ⟨z1, e1, _, g1⟩ := DataW.trod_string Tryz.underlying9 h0_1
  obtain ⟨ys1, m1, _, _, hl1, hlen1, hf1⟩ := DataW.trod_struct Tryz.underlying51 h0_2
  obtain ⟨y1_0, y1_1, y1_2, y1_3, y1_4, rfl⟩ : ∃ y1_0 y1_1 y1_2 y1_3 y1_4, ys1 = [y1_0, y1_1, y1_2, y1_3, y1_4] := by
    match ys1, hlen1 with
    | [y1_0, y1_1, y1_2, y1_3, y1_4], _ => exact ⟨_, _, _, _, _, rfl⟩
  have h1_0 := hf1 0 _ rfl
  have h1_1 := hf1 1 _ rfl
  have h1_2 := hf1 2 _ rfl
  have h1_3 := hf1 3 _ rfl
  have h1_4 := hf1 4 _ rfl
  simp only [List.getElem_toArray, List.getElem_cons_zero, List.getElem_cons_succ, c0_, c1_, c2_, List.drop_zero, List.drop_succ_cons, List.take_succ_cons, List.take_zero, List.getElem?_cons_zero, List.getElem?_cons_succ] at h1_0 h1_1 h1_2 h1_3 h1_4
  obtain ⟨z2, e2, _⟩ := DataW.trod_bool Tryz.underlying4 h1_0
  obtain ⟨z3, e3, _⟩ := DataW.trod_bool Tryz.underlying4 h1_1
  obtain ⟨z4, e4, _⟩ := DataW.trod_bool Tryz.underlying4 h1_2
  obtain ⟨z5, e5, _⟩ := DataW.trod_bool Tryz.underlying4 h1_3
  obtain ⟨z6, e6, _⟩ := DataW.trod_bool Tryz.underlying4 h1_4
  cases e0
  cases e1
  cases e2
  cases e3
  cases e4
  cases e5
  cases e6
  exact ⟨⟨z0, z1, z2, z3, z4, z5, z6⟩, rfl, g0, g1⟩
theorem rwEn {t : TypeId} {a : Option Addr} {n c : Nat} {d : DataW H} {p : List MemPlace} (ht : Tryz.prog.underlying t = some (.slice 67))
    (h : DataW.Trod enc Tryz.prog w 0 (fun _ => true) true t (.slice a n c) d p) : ∃ l, Row enEn 7 w (.slice a n c) l ∧ ∀ e ∈ l, OkEn e := by
  obtain ⟨fuel, hf⟩ := h
  rcases Go.Deep.open_slice ht hf with ⟨hcs, _⟩ | ⟨ad, len, cap, m, k, D, Pl, hcs, _, hl, hm, hmm, _, hi⟩
  · simp [Value.cells] at hcs
    obtain ⟨rfl, rfl, rfl⟩ := hcs
    exact ⟨[], Row.nil _ _ _, by simp⟩
  · simp [Value.cells] at hcs
    obtain ⟨rfl, rfl, rfl⟩ := hcs
    have ck : Tryz.prog.cellsOf 67 = 7 := by kernel_rfl
    rw [ck] at hi
    have hn : n ≤ m := by rw [hmm, if_pos rfl]; exact hl
    have hev : ∀ i, i < n → ∃ e : En, OkEn e ∧ ∀ j u, (enEn e)[j]? = some u → w.cell? (ad.add (i * 7 + j)) = some u := by
      intro i hi'
      obtain ⟨cs', hc, ht'⟩ := hi i (by omega)
      obtain ⟨e, rfl, he⟩ := ceEn ht'
      obtain ⟨_, _, hat⟩ := World.cells?_some hc
      refine ⟨e, he, fun j u hj => ?_⟩
      have hj8 : j < 7 := (List.getElem?_eq_some_iff.1 hj).1
      have := hat j hj8
      rw [hj] at this
      rw [← this, Go.Deep.add_add]
    have hex : ∃ l : List En, l.length = n ∧ ∀ i (h : i < l.length), OkEn l[i] ∧ ∀ j u, (enEn l[i])[j]? = some u → w.cell? (ad.add (i * 7 + j)) = some u := by
      refine ⟨List.ofFn (fun i : Fin n => (hev i.1 i.2).choose), by simp, fun i h => ?_⟩
      have hin : i < n := by simpa using h
      have hc := (hev i hin).choose_spec
      simp only [List.getElem_ofFn]
      exact hc
    obtain ⟨l, hln, hle⟩ := hex
    refine ⟨l, ⟨some ad, c, by rw [hln], by omega, hm, by rw [flat_length enEn_len, hln], fun hp => ⟨ad, rfl, fun j u hu => ?_⟩⟩, fun e he => ?_⟩
    · have hj : j < l.length * 7 := by rw [← flat_length enEn_len]; exact (List.getElem?_eq_some_iff.1 hu).1
      have hi8 : j / 7 < l.length := by omega
      have := (hle (j / 7) hi8).2 (j % 7) u
      rw [show j / 7 * 7 + j % 7 = j by omega] at this
      refine this ?_
      have hfg := flat_get enEn_len l (j / 7) (j % 7) hi8 (by omega)
      rw [show j / 7 * 7 + j % 7 = j by omega] at hfg
      rw [← hfg, hu]
    · obtain ⟨i, hi', rfl⟩ := List.getElem_of_mem he
      exact (hle i hi').1
set_option maxRecDepth 100000 in
theorem opEn {b0 : Nat} {v : Value} {d : DataW H} {p : List MemPlace} (hv : Value.okWide Tryz.prog w .any b0 67 v)
    (h : DataW.Trod enc Tryz.prog w 0 (fun _ => true) true 67 v d p) : ∃ e : En, v = vaEn e ∧ OkEn e := by
  obtain ⟨cs, rfl, _⟩ := okWide_struct Tryz.underlying67 hv
  obtain ⟨fuel, hf⟩ := h
  obtain ⟨e, he, hok⟩ := ceEn hf
  refine ⟨e, ?_, hok⟩
  obtain ⟨l⟩ := cs
  have hl : l = enEn e := by simpa [Value.cells] using he
  rw [hl]
  rfl
end
end Go.Proofs.YtpmafghknafhaaaGreat
