/-
Rows of 'Session': how one stands in memory, and how one is compared.
-/
import Derived.Test.YtpmafghknafhaaaGreatProg
import Derived.Test.YtpmafghknafhaaaGreatLib
import Derived.Test.YtpmafghknafhaaaGreatSesA
set_option linter.unusedVariables false
set_option linter.unusedSimpArgs false
namespace Go.Proofs.YtpmafghknafhaaaGreat
open Go.RowKit
open Sp
def enSe (x : Se) : List Value := [.string x.u, .int .i64 x.i, .int .i64 x.v.1, .int .i64 x.v.2.1, .int .i64 x.v.2.2.1, .string x.v.2.2.2]
abbrev vaSe (x : Se) : Value := .agg #[.string x.u, .int .i64 x.i, .int .i64 x.v.1, .int .i64 x.v.2.1, .int .i64 x.v.2.2.1, .string x.v.2.2.2]
theorem enSe_len (x : Se) : (enSe x).length = 6 := rfl
theorem enSe_one (x : Se) : ∀ u ∈ enSe x, u.oneCell' = true := by intro u hu; simp only [enSe, List.mem_cons, List.mem_nil_iff, or_false] at hu; rcases hu with rfl | rfl | rfl | rfl | rfl | rfl <;> rfl
abbrev zvSe : Value := .agg #[.string ⟨#[]⟩, .int .i64 0, .int .i64 0, .int .i64 0, .int .i64 0, .string ⟨#[]⟩]
theorem infoSe : (Tryz.prog.info? 63).map (fun i => (i.zero, i.size, i.bytes)) = some (some zvSe, 6, 64) := by kernel_rfl
abbrev bxSe (a_ : ByteArray) (b_ : Int) (c_ : Int) (d_ : Int) (e_ : Int) (f_ : ByteArray) : Obj := .cells #[.string a_, .int .i64 b_, .int .i64 c_, .int .i64 d_, .int .i64 e_, .string f_] 63
theorem rowSe {W : World} {A : Option Addr} {n c : Nat} {l : List Se} (h : Row enSe 6 W (.slice A n c) l) (i : Nat) (hi : i < l.length) (a_ : ByteArray) (b_ : Int) (c_ : Int) (d_ : Int) (e_ : Int) (f_ : ByteArray) (he : l[i] = ⟨a_, b_, c_, d_, e_, f_⟩) :
    ∃ ad, A = some ad ∧ W.cell? (ad.add (i * 6)) = some (.string a_) ∧ W.cell? ⟨(ad.add (i * 6)).block, (ad.add (i * 6)).off + 1, none⟩ = some (.int .i64 b_) ∧ W.cell? ⟨(ad.add (i * 6)).block, (ad.add (i * 6)).off + 2, none⟩ = some (.int .i64 c_) ∧ W.cell? ⟨(ad.add (i * 6)).block, (ad.add (i * 6)).off + 3, none⟩ = some (.int .i64 d_) ∧ W.cell? ⟨(ad.add (i * 6)).block, (ad.add (i * 6)).off + 4, none⟩ = some (.int .i64 e_) ∧ W.cell? ⟨(ad.add (i * 6)).block, (ad.add (i * 6)).off + 5, none⟩ = some (.string f_) := by
  obtain ⟨ad, e, hc⟩ := h.get enSe_len i hi
  rw [he] at hc
  exact ⟨ad, e, hc 0 (by omega), hc 1 (by omega), hc 2 (by omega), hc 3 (by omega), hc 4 (by omega), hc 5 (by omega)⟩
theorem rowsSe {W : World} {ad : Addr} {n c : Nat} {l : List Se} (h : Row enSe 6 W (.slice (some ad) n c) l) (i : Nat) (hi : i < l.length) (a_ : ByteArray) (b_ : Int) (c_ : Int) (d_ : Int) (e_ : Int) (f_ : ByteArray) (he : l[i] = ⟨a_, b_, c_, d_, e_, f_⟩) :
    W.cell? (ad.add (i * 6)) = some (.string a_) ∧ W.cell? ⟨(ad.add (i * 6)).block, (ad.add (i * 6)).off + 1, none⟩ = some (.int .i64 b_) ∧ W.cell? ⟨(ad.add (i * 6)).block, (ad.add (i * 6)).off + 2, none⟩ = some (.int .i64 c_) ∧ W.cell? ⟨(ad.add (i * 6)).block, (ad.add (i * 6)).off + 3, none⟩ = some (.int .i64 d_) ∧ W.cell? ⟨(ad.add (i * 6)).block, (ad.add (i * 6)).off + 4, none⟩ = some (.int .i64 e_) ∧ W.cell? ⟨(ad.add (i * 6)).block, (ad.add (i * 6)).off + 5, none⟩ = some (.string f_) := by
  obtain ⟨ad', e, hc⟩ := rowSe h i hi a_ b_ c_ d_ e_ f_ he
  injection e with e
  subst e
  exact hc
theorem cellsSe {W : World} {g : Nat} (a_ : ByteArray) (b_ : Int) (c_ : Int) (d_ : Int) (e_ : Int) (f_ : ByteArray) (h : W.heap[g]? = some (bxSe a_ b_ c_ d_ e_ f_)) :
    W.cell? ⟨g, 0, none⟩ = some (.string a_) ∧ W.cell? ⟨g, 1, none⟩ = some (.int .i64 b_) ∧ W.cell? ⟨g, 2, none⟩ = some (.int .i64 c_) ∧ W.cell? ⟨g, 3, none⟩ = some (.int .i64 d_) ∧ W.cell? ⟨g, 4, none⟩ = some (.int .i64 e_) ∧ W.cell? ⟨g, 5, none⟩ = some (.string f_) ∧ g < W.heap.size :=
  ⟨by simp [World.cell?, h], by simp [World.cell?, h], by simp [World.cell?, h], by simp [World.cell?, h], by simp [World.cell?, h], by simp [World.cell?, h], (Array.getElem?_eq_some_iff.1 h).1⟩
set_option maxHeartbeats 8000000 in
set_option maxRecDepth 100000 in
theorem neqSe (a_ : ByteArray) (b_ : Int) (c_ : Int) (d_ : Int) (e_ : Int) (f_ : ByteArray) (a_' : ByteArray) (b_' : Int) (c_' : Int) (d_' : Int) (e_' : Int) (f_' : ByteArray) (W : World) :
    (binOp .neq 63 (.agg #[.string a_, .int .i64 b_, .int .i64 c_, .int .i64 d_, .int .i64 e_, .string f_]) (.agg #[.string a_', .int .i64 b_', .int .i64 c_', .int .i64 d_', .int .i64 e_', .string f_'])).run Tryz.prog W = .ok (.bool (!(a_.toList == a_'.toList && (b_ == b_' && (c_ == c_' && (d_ == d_' && (e_ == e_' && (f_.toList == f_'.toList)))))))) W := by
  cases h0 : a_.toList == a_'.toList
  · simp [go_sem, h0]
  cases h1 : b_ == b_'
  · simp [go_sem, h0, h1]
  cases h2 : c_ == c_'
  · simp [go_sem, h0, h1, h2]
  cases h3 : d_ == d_'
  · simp [go_sem, h0, h1, h2, h3]
  cases h4 : e_ == e_'
  · simp [go_sem, h0, h1, h2, h3, h4]
  cases h5 : f_.toList == f_'.toList <;> simp [go_sem, h0, h1, h2, h3, h4, h5]
set_option maxHeartbeats 8000000 in
set_option maxRecDepth 100000 in
theorem eqlSe (a_ : ByteArray) (b_ : Int) (c_ : Int) (d_ : Int) (e_ : Int) (f_ : ByteArray) (a_' : ByteArray) (b_' : Int) (c_' : Int) (d_' : Int) (e_' : Int) (f_' : ByteArray) (W : World) :
    (binOp .eql 63 (.agg #[.string a_, .int .i64 b_, .int .i64 c_, .int .i64 d_, .int .i64 e_, .string f_]) (.agg #[.string a_', .int .i64 b_', .int .i64 c_', .int .i64 d_', .int .i64 e_', .string f_'])).run Tryz.prog W = .ok (.bool ((a_.toList == a_'.toList && (b_ == b_' && (c_ == c_' && (d_ == d_' && (e_ == e_' && (f_.toList == f_'.toList)))))))) W := by
  cases h0 : a_.toList == a_'.toList
  · simp [go_sem, h0]
  cases h1 : b_ == b_'
  · simp [go_sem, h0, h1]
  cases h2 : c_ == c_'
  · simp [go_sem, h0, h1, h2]
  cases h3 : d_ == d_'
  · simp [go_sem, h0, h1, h2, h3]
  cases h4 : e_ == e_'
  · simp [go_sem, h0, h1, h2, h3, h4]
  cases h5 : f_.toList == f_'.toList <;> simp [go_sem, h0, h1, h2, h3, h4, h5]
theorem eqvSe (a_ : ByteArray) (b_ : Int) (c_ : Int) (d_ : Int) (e_ : Int) (f_ : ByteArray) (a_' : ByteArray) (b_' : Int) (c_' : Int) (d_' : Int) (e_' : Int) (f_' : ByteArray) : (a_.toList == a_'.toList && (b_ == b_' && (c_ == c_' && (d_ == d_' && (e_ == e_' && (f_.toList == f_'.toList)))))) = decide ((⟨a_, b_, c_, d_, e_, f_⟩ : Se) = ⟨a_', b_', c_', d_', e_', f_'⟩) := by
  rw [Bool.eq_iff_iff, decide_eq_true_eq]
  simp only [Bool.and_eq_true, beq_iff_eq, toList_inj', Se.mk.injEq, Prod.mk.injEq]
end Go.Proofs.YtpmafghknafhaaaGreat
