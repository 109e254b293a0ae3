/-
Rows of 'Event': how one stands in memory, and how one is compared.
-/
import Derived.Test.YtpmafghknafhaaaGreatProg
import Derived.Test.YtpmafghknafhaaaGreatLib
import Derived.Test.YtpmafghknafhaaaGreatStB
set_option linter.unusedVariables false
set_option linter.unusedSimpArgs false
namespace Go.Proofs.YtpmafghknafhaaaGreat
open Go.RowKit
open Sp
def enEv (x : Evt) : List Value := [.int .i64 x.k, .string x.u, .string x.o, .int .i64 x.i, .int .i64 x.v.1, .int .i64 x.v.2.1, .int .i64 x.v.2.2.1, .string x.v.2.2.2]
abbrev vaEv (x : Evt) : Value := .agg #[.int .i64 x.k, .string x.u, .string x.o, .int .i64 x.i, .int .i64 x.v.1, .int .i64 x.v.2.1, .int .i64 x.v.2.2.1, .string x.v.2.2.2]
theorem enEv_len (x : Evt) : (enEv x).length = 8 := rfl
theorem enEv_one (x : Evt) : ∀ u ∈ enEv x, u.oneCell' = true := by intro u hu; simp only [enEv, List.mem_cons, List.mem_nil_iff, or_false] at hu; rcases hu with rfl | rfl | rfl | rfl | rfl | rfl | rfl | rfl <;> rfl
abbrev zvEv : Value := .agg #[.int .i64 0, .string ⟨#[]⟩, .string ⟨#[]⟩, .int .i64 0, .int .i64 0, .int .i64 0, .int .i64 0, .string ⟨#[]⟩]
theorem infoEv : (Tryz.prog.info? 29).map (fun i => (i.zero, i.size, i.bytes)) = some (some zvEv, 8, 88) := by kernel_rfl
abbrev bxEv (a_ : Int) (b_ : ByteArray) (c_ : ByteArray) (d_ : Int) (e_ : Int) (f_ : Int) (g_ : Int) (h_ : ByteArray) : Obj := .cells #[.int .i64 a_, .string b_, .string c_, .int .i64 d_, .int .i64 e_, .int .i64 f_, .int .i64 g_, .string h_] 29
theorem rowEv {W : World} {A : Option Addr} {n c : Nat} {l : List Evt} (h : Row enEv 8 W (.slice A n c) l) (i : Nat) (hi : i < l.length) (a_ : Int) (b_ : ByteArray) (c_ : ByteArray) (d_ : Int) (e_ : Int) (f_ : Int) (g_ : Int) (h_ : ByteArray) (he : l[i] = ⟨a_, b_, c_, d_, e_, f_, g_, h_⟩) :
    ∃ ad, A = some ad ∧ W.cell? (ad.add (i * 8)) = some (.int .i64 a_) ∧ W.cell? ⟨(ad.add (i * 8)).block, (ad.add (i * 8)).off + 1, none⟩ = some (.string b_) ∧ W.cell? ⟨(ad.add (i * 8)).block, (ad.add (i * 8)).off + 2, none⟩ = some (.string c_) ∧ W.cell? ⟨(ad.add (i * 8)).block, (ad.add (i * 8)).off + 3, none⟩ = some (.int .i64 d_) ∧ W.cell? ⟨(ad.add (i * 8)).block, (ad.add (i * 8)).off + 4, none⟩ = some (.int .i64 e_) ∧ W.cell? ⟨(ad.add (i * 8)).block, (ad.add (i * 8)).off + 5, none⟩ = some (.int .i64 f_) ∧ W.cell? ⟨(ad.add (i * 8)).block, (ad.add (i * 8)).off + 6, none⟩ = some (.int .i64 g_) ∧ W.cell? ⟨(ad.add (i * 8)).block, (ad.add (i * 8)).off + 7, none⟩ = some (.string h_) := by
  obtain ⟨ad, e, hc⟩ := h.get enEv_len i hi
  rw [he] at hc
  exact ⟨ad, e, hc 0 (by omega), hc 1 (by omega), hc 2 (by omega), hc 3 (by omega), hc 4 (by omega), hc 5 (by omega), hc 6 (by omega), hc 7 (by omega)⟩
theorem rowsEv {W : World} {ad : Addr} {n c : Nat} {l : List Evt} (h : Row enEv 8 W (.slice (some ad) n c) l) (i : Nat) (hi : i < l.length) (a_ : Int) (b_ : ByteArray) (c_ : ByteArray) (d_ : Int) (e_ : Int) (f_ : Int) (g_ : Int) (h_ : ByteArray) (he : l[i] = ⟨a_, b_, c_, d_, e_, f_, g_, h_⟩) :
    W.cell? (ad.add (i * 8)) = some (.int .i64 a_) ∧ W.cell? ⟨(ad.add (i * 8)).block, (ad.add (i * 8)).off + 1, none⟩ = some (.string b_) ∧ W.cell? ⟨(ad.add (i * 8)).block, (ad.add (i * 8)).off + 2, none⟩ = some (.string c_) ∧ W.cell? ⟨(ad.add (i * 8)).block, (ad.add (i * 8)).off + 3, none⟩ = some (.int .i64 d_) ∧ W.cell? ⟨(ad.add (i * 8)).block, (ad.add (i * 8)).off + 4, none⟩ = some (.int .i64 e_) ∧ W.cell? ⟨(ad.add (i * 8)).block, (ad.add (i * 8)).off + 5, none⟩ = some (.int .i64 f_) ∧ W.cell? ⟨(ad.add (i * 8)).block, (ad.add (i * 8)).off + 6, none⟩ = some (.int .i64 g_) ∧ W.cell? ⟨(ad.add (i * 8)).block, (ad.add (i * 8)).off + 7, none⟩ = some (.string h_) := by
  obtain ⟨ad', e, hc⟩ := rowEv h i hi a_ b_ c_ d_ e_ f_ g_ h_ he
  injection e with e
  subst e
  exact hc
theorem cellsEv {W : World} {g : Nat} (a_ : Int) (b_ : ByteArray) (c_ : ByteArray) (d_ : Int) (e_ : Int) (f_ : Int) (g_ : Int) (h_ : ByteArray) (h : W.heap[g]? = some (bxEv a_ b_ c_ d_ e_ f_ g_ h_)) :
    W.cell? ⟨g, 0, none⟩ = some (.int .i64 a_) ∧ W.cell? ⟨g, 1, none⟩ = some (.string b_) ∧ W.cell? ⟨g, 2, none⟩ = some (.string c_) ∧ W.cell? ⟨g, 3, none⟩ = some (.int .i64 d_) ∧ W.cell? ⟨g, 4, none⟩ = some (.int .i64 e_) ∧ W.cell? ⟨g, 5, none⟩ = some (.int .i64 f_) ∧ W.cell? ⟨g, 6, none⟩ = some (.int .i64 g_) ∧ W.cell? ⟨g, 7, none⟩ = some (.string h_) ∧ g < W.heap.size :=
  ⟨by simp [World.cell?, h], by simp [World.cell?, h], by simp [World.cell?, h], by simp [World.cell?, h], by simp [World.cell?, h], by simp [World.cell?, h], by simp [World.cell?, h], by simp [World.cell?, h], (Array.getElem?_eq_some_iff.1 h).1⟩
set_option maxHeartbeats 8000000 in
set_option maxRecDepth 100000 in
theorem neqEv (a_ : Int) (b_ : ByteArray) (c_ : ByteArray) (d_ : Int) (e_ : Int) (f_ : Int) (g_ : Int) (h_ : ByteArray) (a_' : Int) (b_' : ByteArray) (c_' : ByteArray) (d_' : Int) (e_' : Int) (f_' : Int) (g_' : Int) (h_' : ByteArray) (W : World) :
    (binOp .neq 29 (.agg #[.int .i64 a_, .string b_, .string c_, .int .i64 d_, .int .i64 e_, .int .i64 f_, .int .i64 g_, .string h_]) (.agg #[.int .i64 a_', .string b_', .string c_', .int .i64 d_', .int .i64 e_', .int .i64 f_', .int .i64 g_', .string h_'])).run Tryz.prog W = .ok (.bool (!(a_ == a_' && (b_.toList == b_'.toList && (c_.toList == c_'.toList && (d_ == d_' && (e_ == e_' && (f_ == f_' && (g_ == g_' && (h_.toList == h_'.toList)))))))))) W := by
  cases h0 : a_ == a_'
  · simp [go_sem, h0]
  cases h1 : b_.toList == b_'.toList
  · simp [go_sem, h0, h1]
  cases h2 : c_.toList == c_'.toList
  · simp [go_sem, h0, h1, h2]
  cases h3 : d_ == d_'
  · simp [go_sem, h0, h1, h2, h3]
  cases h4 : e_ == e_'
  · simp [go_sem, h0, h1, h2, h3, h4]
  cases h5 : f_ == f_'
  · simp [go_sem, h0, h1, h2, h3, h4, h5]
  cases h6 : g_ == g_'
  · simp [go_sem, h0, h1, h2, h3, h4, h5, h6]
  cases h7 : h_.toList == h_'.toList <;> simp [go_sem, h0, h1, h2, h3, h4, h5, h6, h7]
set_option maxHeartbeats 8000000 in
set_option maxRecDepth 100000 in
theorem eqlEv (a_ : Int) (b_ : ByteArray) (c_ : ByteArray) (d_ : Int) (e_ : Int) (f_ : Int) (g_ : Int) (h_ : ByteArray) (a_' : Int) (b_' : ByteArray) (c_' : ByteArray) (d_' : Int) (e_' : Int) (f_' : Int) (g_' : Int) (h_' : ByteArray) (W : World) :
    (binOp .eql 29 (.agg #[.int .i64 a_, .string b_, .string c_, .int .i64 d_, .int .i64 e_, .int .i64 f_, .int .i64 g_, .string h_]) (.agg #[.int .i64 a_', .string b_', .string c_', .int .i64 d_', .int .i64 e_', .int .i64 f_', .int .i64 g_', .string h_'])).run Tryz.prog W = .ok (.bool ((a_ == a_' && (b_.toList == b_'.toList && (c_.toList == c_'.toList && (d_ == d_' && (e_ == e_' && (f_ == f_' && (g_ == g_' && (h_.toList == h_'.toList)))))))))) W := by
  cases h0 : a_ == a_'
  · simp [go_sem, h0]
  cases h1 : b_.toList == b_'.toList
  · simp [go_sem, h0, h1]
  cases h2 : c_.toList == c_'.toList
  · simp [go_sem, h0, h1, h2]
  cases h3 : d_ == d_'
  · simp [go_sem, h0, h1, h2, h3]
  cases h4 : e_ == e_'
  · simp [go_sem, h0, h1, h2, h3, h4]
  cases h5 : f_ == f_'
  · simp [go_sem, h0, h1, h2, h3, h4, h5]
  cases h6 : g_ == g_'
  · simp [go_sem, h0, h1, h2, h3, h4, h5, h6]
  cases h7 : h_.toList == h_'.toList <;> simp [go_sem, h0, h1, h2, h3, h4, h5, h6, h7]
theorem eqvEv (a_ : Int) (b_ : ByteArray) (c_ : ByteArray) (d_ : Int) (e_ : Int) (f_ : Int) (g_ : Int) (h_ : ByteArray) (a_' : Int) (b_' : ByteArray) (c_' : ByteArray) (d_' : Int) (e_' : Int) (f_' : Int) (g_' : Int) (h_' : ByteArray) : (a_ == a_' && (b_.toList == b_'.toList && (c_.toList == c_'.toList && (d_ == d_' && (e_ == e_' && (f_ == f_' && (g_ == g_' && (h_.toList == h_'.toList)))))))) = decide ((⟨a_, b_, c_, d_, e_, f_, g_, h_⟩ : Evt) = ⟨a_', b_', c_', d_', e_', f_', g_', h_'⟩) := by
  rw [Bool.eq_iff_iff, decide_eq_true_eq]
  simp only [Bool.and_eq_true, beq_iff_eq, toList_inj', Evt.mk.injEq, Prod.mk.injEq]
end Go.Proofs.YtpmafghknafhaaaGreat
