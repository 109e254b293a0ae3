/-
Rows of 'Move': how one stands in memory, and how one is compared.
-/
import Derived.Test.YtpmafghknafhaaaProg
import Derived.Test.YtpmafghknafhaaaLib
import Derived.Test.YtpmafghknafhaaaRosA
set_option linter.unusedVariables false
set_option linter.unusedSimpArgs false
namespace Go.Proofs.Ytpmafghknafhaaa
open Go.RowKit
open Sp
def enMv (x : Mv) : List Value := [.int .i64 x.k, .string x.u, .string x.o]
abbrev vaMv (x : Mv) : Value := .agg #[.int .i64 x.k, .string x.u, .string x.o]
theorem enMv_len (x : Mv) : (enMv x).length = 3 := rfl
theorem enMv_one (x : Mv) : ∀ u ∈ enMv x, u.oneCell' = true := by intro u hu; simp only [enMv, List.mem_cons, List.mem_nil_iff, or_false] at hu; rcases hu with rfl | rfl | rfl <;> rfl
abbrev zvMv : Value := .agg #[.int .i64 0, .string ⟨#[]⟩, .string ⟨#[]⟩]
theorem infoMv : (Try.prog.info? 33).map (fun i => (i.zero, i.size, i.bytes)) = some (some zvMv, 3, 40) := by kernel_rfl
abbrev bxMv (a_ : Int) (b_ : ByteArray) (c_ : ByteArray) : Obj := .cells #[.int .i64 a_, .string b_, .string c_] 33
theorem rowMv {W : World} {A : Option Addr} {n c : Nat} {l : List Mv} (h : Row enMv 3 W (.slice A n c) l) (i : Nat) (hi : i < l.length) (a_ : Int) (b_ : ByteArray) (c_ : ByteArray) (he : l[i] = ⟨a_, b_, c_⟩) :
    ∃ ad, A = some ad ∧ W.cell? (ad.add (i * 3)) = some (.int .i64 a_) ∧ W.cell? ⟨(ad.add (i * 3)).block, (ad.add (i * 3)).off + 1, none⟩ = some (.string b_) ∧ W.cell? ⟨(ad.add (i * 3)).block, (ad.add (i * 3)).off + 2, none⟩ = some (.string c_) := by
  obtain ⟨ad, e, hc⟩ := h.get enMv_len i hi
  rw [he] at hc
  exact ⟨ad, e, hc 0 (by omega), hc 1 (by omega), hc 2 (by omega)⟩
theorem rowsMv {W : World} {ad : Addr} {n c : Nat} {l : List Mv} (h : Row enMv 3 W (.slice (some ad) n c) l) (i : Nat) (hi : i < l.length) (a_ : Int) (b_ : ByteArray) (c_ : ByteArray) (he : l[i] = ⟨a_, b_, c_⟩) :
    W.cell? (ad.add (i * 3)) = some (.int .i64 a_) ∧ W.cell? ⟨(ad.add (i * 3)).block, (ad.add (i * 3)).off + 1, none⟩ = some (.string b_) ∧ W.cell? ⟨(ad.add (i * 3)).block, (ad.add (i * 3)).off + 2, none⟩ = some (.string c_) := by
  obtain ⟨ad', e, hc⟩ := rowMv h i hi a_ b_ c_ he
  injection e with e
  subst e
  exact hc
theorem cellsMv {W : World} {g : Nat} (a_ : Int) (b_ : ByteArray) (c_ : ByteArray) (h : W.heap[g]? = some (bxMv a_ b_ c_)) :
    W.cell? ⟨g, 0, none⟩ = some (.int .i64 a_) ∧ W.cell? ⟨g, 1, none⟩ = some (.string b_) ∧ W.cell? ⟨g, 2, none⟩ = some (.string c_) ∧ g < W.heap.size :=
  ⟨by simp [World.cell?, h], by simp [World.cell?, h], by simp [World.cell?, h], (Array.getElem?_eq_some_iff.1 h).1⟩
set_option maxHeartbeats 8000000 in
set_option maxRecDepth 100000 in
theorem neqMv (a_ : Int) (b_ : ByteArray) (c_ : ByteArray) (a_' : Int) (b_' : ByteArray) (c_' : ByteArray) (W : World) :
    (binOp .neq 33 (.agg #[.int .i64 a_, .string b_, .string c_]) (.agg #[.int .i64 a_', .string b_', .string c_'])).run Try.prog W = .ok (.bool (!(a_ == a_' && (b_.toList == b_'.toList && (c_.toList == c_'.toList))))) W := by
  cases h0 : a_ == a_'
  · simp [go_sem, h0]
  cases h1 : b_.toList == b_'.toList
  · simp [go_sem, h0, h1]
  cases h2 : c_.toList == c_'.toList <;> simp [go_sem, h0, h1, h2]
set_option maxHeartbeats 8000000 in
set_option maxRecDepth 100000 in
theorem eqlMv (a_ : Int) (b_ : ByteArray) (c_ : ByteArray) (a_' : Int) (b_' : ByteArray) (c_' : ByteArray) (W : World) :
    (binOp .eql 33 (.agg #[.int .i64 a_, .string b_, .string c_]) (.agg #[.int .i64 a_', .string b_', .string c_'])).run Try.prog W = .ok (.bool ((a_ == a_' && (b_.toList == b_'.toList && (c_.toList == c_'.toList))))) W := by
  cases h0 : a_ == a_'
  · simp [go_sem, h0]
  cases h1 : b_.toList == b_'.toList
  · simp [go_sem, h0, h1]
  cases h2 : c_.toList == c_'.toList <;> simp [go_sem, h0, h1, h2]
theorem eqvMv (a_ : Int) (b_ : ByteArray) (c_ : ByteArray) (a_' : Int) (b_' : ByteArray) (c_' : ByteArray) : (a_ == a_' && (b_.toList == b_'.toList && (c_.toList == c_'.toList))) = decide ((⟨a_, b_, c_⟩ : Mv) = ⟨a_', b_', c_'⟩) := by
  rw [Bool.eq_iff_iff, decide_eq_true_eq]
  simp only [Bool.and_eq_true, beq_iff_eq, toList_inj', Mv.mk.injEq, Prod.mk.injEq]
end Go.Proofs.Ytpmafghknafhaaa
