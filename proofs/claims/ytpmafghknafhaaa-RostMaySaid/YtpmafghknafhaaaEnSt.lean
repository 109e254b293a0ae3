/-
Rows of 'Entry': how one stands in memory, and how one is compared.
-/
import Derived.Test.YtpmafghknafhaaaProg
import Derived.Test.YtpmafghknafhaaaLib
import Derived.Test.YtpmafghknafhaaaRosA
set_option linter.unusedVariables false
set_option linter.unusedSimpArgs false
namespace Go.Proofs.Ytpmafghknafhaaa
open Go.RowKit
open Sp
def enEn (x : En) : List Value := [.string x.o, .string x.c, .bool x.it.to, .bool x.it.fr, .bool x.it.ou, .bool x.it.in_, .bool x.it.bl]
abbrev vaEn (x : En) : Value := .agg #[.string x.o, .string x.c, .bool x.it.to, .bool x.it.fr, .bool x.it.ou, .bool x.it.in_, .bool x.it.bl]
theorem enEn_len (x : En) : (enEn x).length = 7 := rfl
theorem enEn_one (x : En) : ∀ u ∈ enEn x, u.oneCell' = true := by intro u hu; simp only [enEn, List.mem_cons, List.mem_nil_iff, or_false] at hu; rcases hu with rfl | rfl | rfl | rfl | rfl | rfl | rfl <;> rfl
abbrev zvEn : Value := .agg #[.string ⟨#[]⟩, .string ⟨#[]⟩, .bool false, .bool false, .bool false, .bool false, .bool false]
theorem infoEn : (Try.prog.info? 49).map (fun i => (i.zero, i.size, i.bytes)) = some (some zvEn, 7, 40) := by kernel_rfl
abbrev bxEn (a_ : ByteArray) (b_ : ByteArray) (c_ : Bool) (d_ : Bool) (e_ : Bool) (f_ : Bool) (g_ : Bool) : Obj := .cells #[.string a_, .string b_, .bool c_, .bool d_, .bool e_, .bool f_, .bool g_] 49
theorem rowEn {W : World} {A : Option Addr} {n c : Nat} {l : List En} (h : Row enEn 7 W (.slice A n c) l) (i : Nat) (hi : i < l.length) (a_ : ByteArray) (b_ : ByteArray) (c_ : Bool) (d_ : Bool) (e_ : Bool) (f_ : Bool) (g_ : Bool) (he : l[i] = ⟨a_, b_, c_, d_, e_, f_, g_⟩) :
    ∃ ad, A = some ad ∧ W.cell? (ad.add (i * 7)) = some (.string a_) ∧ W.cell? ⟨(ad.add (i * 7)).block, (ad.add (i * 7)).off + 1, none⟩ = some (.string b_) ∧ W.cell? ⟨(ad.add (i * 7)).block, (ad.add (i * 7)).off + 2, none⟩ = some (.bool c_) ∧ W.cell? ⟨(ad.add (i * 7)).block, (ad.add (i * 7)).off + 3, none⟩ = some (.bool d_) ∧ W.cell? ⟨(ad.add (i * 7)).block, (ad.add (i * 7)).off + 4, none⟩ = some (.bool e_) ∧ W.cell? ⟨(ad.add (i * 7)).block, (ad.add (i * 7)).off + 5, none⟩ = some (.bool f_) ∧ W.cell? ⟨(ad.add (i * 7)).block, (ad.add (i * 7)).off + 6, none⟩ = some (.bool g_) := by
  obtain ⟨ad, e, hc⟩ := h.get enEn_len i hi
  rw [he] at hc
  exact ⟨ad, e, hc 0 (by omega), hc 1 (by omega), hc 2 (by omega), hc 3 (by omega), hc 4 (by omega), hc 5 (by omega), hc 6 (by omega)⟩
theorem rowsEn {W : World} {ad : Addr} {n c : Nat} {l : List En} (h : Row enEn 7 W (.slice (some ad) n c) l) (i : Nat) (hi : i < l.length) (a_ : ByteArray) (b_ : ByteArray) (c_ : Bool) (d_ : Bool) (e_ : Bool) (f_ : Bool) (g_ : Bool) (he : l[i] = ⟨a_, b_, c_, d_, e_, f_, g_⟩) :
    W.cell? (ad.add (i * 7)) = some (.string a_) ∧ W.cell? ⟨(ad.add (i * 7)).block, (ad.add (i * 7)).off + 1, none⟩ = some (.string b_) ∧ W.cell? ⟨(ad.add (i * 7)).block, (ad.add (i * 7)).off + 2, none⟩ = some (.bool c_) ∧ W.cell? ⟨(ad.add (i * 7)).block, (ad.add (i * 7)).off + 3, none⟩ = some (.bool d_) ∧ W.cell? ⟨(ad.add (i * 7)).block, (ad.add (i * 7)).off + 4, none⟩ = some (.bool e_) ∧ W.cell? ⟨(ad.add (i * 7)).block, (ad.add (i * 7)).off + 5, none⟩ = some (.bool f_) ∧ W.cell? ⟨(ad.add (i * 7)).block, (ad.add (i * 7)).off + 6, none⟩ = some (.bool g_) := by
  obtain ⟨ad', e, hc⟩ := rowEn h i hi a_ b_ c_ d_ e_ f_ g_ he
  injection e with e
  subst e
  exact hc
theorem cellsEn {W : World} {g : Nat} (a_ : ByteArray) (b_ : ByteArray) (c_ : Bool) (d_ : Bool) (e_ : Bool) (f_ : Bool) (g_ : Bool) (h : W.heap[g]? = some (bxEn a_ b_ c_ d_ e_ f_ g_)) :
    W.cell? ⟨g, 0, none⟩ = some (.string a_) ∧ W.cell? ⟨g, 1, none⟩ = some (.string b_) ∧ W.cell? ⟨g, 2, none⟩ = some (.bool c_) ∧ W.cell? ⟨g, 3, none⟩ = some (.bool d_) ∧ W.cell? ⟨g, 4, none⟩ = some (.bool e_) ∧ W.cell? ⟨g, 5, none⟩ = some (.bool f_) ∧ W.cell? ⟨g, 6, none⟩ = some (.bool g_) ∧ g < W.heap.size :=
  ⟨by simp [World.cell?, h], by simp [World.cell?, h], by simp [World.cell?, h], by simp [World.cell?, h], by simp [World.cell?, h], by simp [World.cell?, h], by simp [World.cell?, h], (Array.getElem?_eq_some_iff.1 h).1⟩
set_option maxHeartbeats 8000000 in
set_option maxRecDepth 100000 in
theorem neqEn (a_ : ByteArray) (b_ : ByteArray) (c_ : Bool) (d_ : Bool) (e_ : Bool) (f_ : Bool) (g_ : Bool) (a_' : ByteArray) (b_' : ByteArray) (c_' : Bool) (d_' : Bool) (e_' : Bool) (f_' : Bool) (g_' : Bool) (W : World) :
    (binOp .neq 49 (.agg #[.string a_, .string b_, .bool c_, .bool d_, .bool e_, .bool f_, .bool g_]) (.agg #[.string a_', .string b_', .bool c_', .bool d_', .bool e_', .bool f_', .bool g_'])).run Try.prog W = .ok (.bool (!(a_.toList == a_'.toList && (b_.toList == b_'.toList && (c_ == c_' && (d_ == d_' && (e_ == e_' && (f_ == f_' && (g_ == g_'))))))))) W := by
  cases h0 : a_.toList == a_'.toList
  · simp [go_sem, h0]
  cases h1 : b_.toList == b_'.toList
  · simp [go_sem, h0, h1]
  cases h2 : c_ == c_'
  · simp [go_sem, h0, h1, h2]
  cases h3 : d_ == d_'
  · simp [go_sem, h0, h1, h2, h3]
  cases h4 : e_ == e_'
  · simp [go_sem, h0, h1, h2, h3, h4]
  cases h5 : f_ == f_'
  · simp [go_sem, h0, h1, h2, h3, h4, h5]
  cases h6 : g_ == g_' <;> simp [go_sem, h0, h1, h2, h3, h4, h5, h6]
set_option maxHeartbeats 8000000 in
set_option maxRecDepth 100000 in
theorem eqlEn (a_ : ByteArray) (b_ : ByteArray) (c_ : Bool) (d_ : Bool) (e_ : Bool) (f_ : Bool) (g_ : Bool) (a_' : ByteArray) (b_' : ByteArray) (c_' : Bool) (d_' : Bool) (e_' : Bool) (f_' : Bool) (g_' : Bool) (W : World) :
    (binOp .eql 49 (.agg #[.string a_, .string b_, .bool c_, .bool d_, .bool e_, .bool f_, .bool g_]) (.agg #[.string a_', .string b_', .bool c_', .bool d_', .bool e_', .bool f_', .bool g_'])).run Try.prog W = .ok (.bool ((a_.toList == a_'.toList && (b_.toList == b_'.toList && (c_ == c_' && (d_ == d_' && (e_ == e_' && (f_ == f_' && (g_ == g_'))))))))) W := by
  cases h0 : a_.toList == a_'.toList
  · simp [go_sem, h0]
  cases h1 : b_.toList == b_'.toList
  · simp [go_sem, h0, h1]
  cases h2 : c_ == c_'
  · simp [go_sem, h0, h1, h2]
  cases h3 : d_ == d_'
  · simp [go_sem, h0, h1, h2, h3]
  cases h4 : e_ == e_'
  · simp [go_sem, h0, h1, h2, h3, h4]
  cases h5 : f_ == f_'
  · simp [go_sem, h0, h1, h2, h3, h4, h5]
  cases h6 : g_ == g_' <;> simp [go_sem, h0, h1, h2, h3, h4, h5, h6]
theorem eqvEn (a_ : ByteArray) (b_ : ByteArray) (c_ : Bool) (d_ : Bool) (e_ : Bool) (f_ : Bool) (g_ : Bool) (a_' : ByteArray) (b_' : ByteArray) (c_' : Bool) (d_' : Bool) (e_' : Bool) (f_' : Bool) (g_' : Bool) : (a_.toList == a_'.toList && (b_.toList == b_'.toList && (c_ == c_' && (d_ == d_' && (e_ == e_' && (f_ == f_' && (g_ == g_'))))))) = decide ((⟨a_, b_, c_, d_, e_, f_, g_⟩ : En) = ⟨a_', b_', c_', d_', e_', f_', g_'⟩) := by
  rw [Bool.eq_iff_iff, decide_eq_true_eq]
  simp only [Bool.and_eq_true, beq_iff_eq, toList_inj', En.mk.injEq, Prod.mk.injEq, It.mk.injEq]
end Go.Proofs.Ytpmafghknafhaaa
