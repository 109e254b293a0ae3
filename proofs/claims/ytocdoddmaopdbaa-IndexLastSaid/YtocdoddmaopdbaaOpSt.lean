/-
Rows of 'Op': how one stands in memory, and how one is compared.
-/
import Derived.Test.YtocdoddmaopdbaaProg
import Derived.Test.YtocdoddmaopdbaaLib
import Derived.Test.YtocdoddmaopdbaaIxB
set_option linter.unusedVariables false
set_option linter.unusedSimpArgs false
namespace Go.Proofs.Ytocdoddmaopdbaa
open Go.RowKit
open Sp
def enOp (x : OpI) : List Value := [.int .i64 x.d, .string x.w, .string x.c]
abbrev vaOp (x : OpI) : Value := .agg #[.int .i64 x.d, .string x.w, .string x.c]
theorem enOp_len (x : OpI) : (enOp x).length = 3 := rfl
theorem enOp_one (x : OpI) : ∀ u ∈ enOp x, u.oneCell' = true := by intro u hu; simp only [enOp, List.mem_cons, List.mem_nil_iff, or_false] at hu; rcases hu with rfl | rfl | rfl <;> rfl
abbrev zvOp : Value := .agg #[.int .i64 0, .string ⟨#[]⟩, .string ⟨#[]⟩]
theorem infoOp : (Try.prog.info? 32).map (fun i => (i.zero, i.size, i.bytes)) = some (some zvOp, 3, 40) := by kernel_rfl
abbrev bxOp (a_ : Int) (b_ : ByteArray) (c_ : ByteArray) : Obj := .cells #[.int .i64 a_, .string b_, .string c_] 32
theorem rowOp {W : World} {A : Option Addr} {n c : Nat} {l : List OpI} (h : Row enOp 3 W (.slice A n c) l) (i : Nat) (hi : i < l.length) (a_ : Int) (b_ : ByteArray) (c_ : ByteArray) (he : l[i] = ⟨a_, b_, c_⟩) :
    ∃ ad, A = some ad ∧ W.cell? (ad.add (i * 3)) = some (.int .i64 a_) ∧ W.cell? ⟨(ad.add (i * 3)).block, (ad.add (i * 3)).off + 1, none⟩ = some (.string b_) ∧ W.cell? ⟨(ad.add (i * 3)).block, (ad.add (i * 3)).off + 2, none⟩ = some (.string c_) := by
  obtain ⟨ad, e, hc⟩ := h.get enOp_len i hi
  rw [he] at hc
  exact ⟨ad, e, hc 0 (by omega), hc 1 (by omega), hc 2 (by omega)⟩
theorem rowsOp {W : World} {ad : Addr} {n c : Nat} {l : List OpI} (h : Row enOp 3 W (.slice (some ad) n c) l) (i : Nat) (hi : i < l.length) (a_ : Int) (b_ : ByteArray) (c_ : ByteArray) (he : l[i] = ⟨a_, b_, c_⟩) :
    W.cell? (ad.add (i * 3)) = some (.int .i64 a_) ∧ W.cell? ⟨(ad.add (i * 3)).block, (ad.add (i * 3)).off + 1, none⟩ = some (.string b_) ∧ W.cell? ⟨(ad.add (i * 3)).block, (ad.add (i * 3)).off + 2, none⟩ = some (.string c_) := by
  obtain ⟨ad', e, hc⟩ := rowOp h i hi a_ b_ c_ he
  injection e with e
  subst e
  exact hc
theorem cellsOp {W : World} {g : Nat} (a_ : Int) (b_ : ByteArray) (c_ : ByteArray) (h : W.heap[g]? = some (bxOp a_ b_ c_)) :
    W.cell? ⟨g, 0, none⟩ = some (.int .i64 a_) ∧ W.cell? ⟨g, 1, none⟩ = some (.string b_) ∧ W.cell? ⟨g, 2, none⟩ = some (.string c_) ∧ g < W.heap.size :=
  ⟨by simp [World.cell?, h], by simp [World.cell?, h], by simp [World.cell?, h], (Array.getElem?_eq_some_iff.1 h).1⟩
set_option maxHeartbeats 8000000 in
set_option maxRecDepth 100000 in
theorem neqOp (a_ : Int) (b_ : ByteArray) (c_ : ByteArray) (a_' : Int) (b_' : ByteArray) (c_' : ByteArray) (W : World) :
    (binOp .neq 32 (.agg #[.int .i64 a_, .string b_, .string c_]) (.agg #[.int .i64 a_', .string b_', .string c_'])).run Try.prog W = .ok (.bool (!(a_ == a_' && (b_.toList == b_'.toList && (c_.toList == c_'.toList))))) W := by
  cases h0 : a_ == a_'
  · simp [go_sem, h0]
  cases h1 : b_.toList == b_'.toList
  · simp [go_sem, h0, h1]
  cases h2 : c_.toList == c_'.toList <;> simp [go_sem, h0, h1, h2]
set_option maxHeartbeats 8000000 in
set_option maxRecDepth 100000 in
theorem eqlOp (a_ : Int) (b_ : ByteArray) (c_ : ByteArray) (a_' : Int) (b_' : ByteArray) (c_' : ByteArray) (W : World) :
    (binOp .eql 32 (.agg #[.int .i64 a_, .string b_, .string c_]) (.agg #[.int .i64 a_', .string b_', .string c_'])).run Try.prog W = .ok (.bool ((a_ == a_' && (b_.toList == b_'.toList && (c_.toList == c_'.toList))))) W := by
  cases h0 : a_ == a_'
  · simp [go_sem, h0]
  cases h1 : b_.toList == b_'.toList
  · simp [go_sem, h0, h1]
  cases h2 : c_.toList == c_'.toList <;> simp [go_sem, h0, h1, h2]
theorem eqvOp (a_ : Int) (b_ : ByteArray) (c_ : ByteArray) (a_' : Int) (b_' : ByteArray) (c_' : ByteArray) : (a_ == a_' && (b_.toList == b_'.toList && (c_.toList == c_'.toList))) = decide ((⟨a_, b_, c_⟩ : OpI) = ⟨a_', b_', c_'⟩) := by
  rw [Bool.eq_iff_iff, decide_eq_true_eq]
  simp only [Bool.and_eq_true, beq_iff_eq, toList_inj', OpI.mk.injEq, Prod.mk.injEq]
end Go.Proofs.Ytocdoddmaopdbaa
