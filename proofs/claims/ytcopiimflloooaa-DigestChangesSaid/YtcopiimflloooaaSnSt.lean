/-
Rows of 'Seen': how one stands in memory, and how one is compared.
-/
import Derived.Test.YtcopiimflloooaaProg
import Derived.Test.YtcopiimflloooaaLib
import Derived.Test.YtcopiimflloooaaDigA
set_option linter.unusedVariables false
set_option linter.unusedSimpArgs false
namespace Go.Proofs.Ytcopiimflloooaa
open Go.RowKit
open Sp
def enSn (x : Sn) : List Value := [.string x.c, .int .i64 x.v.1, .int .i64 x.v.2.1, .int .i64 x.v.2.2.1, .string x.v.2.2.2]
abbrev vaSn (x : Sn) : Value := .agg #[.string x.c, .int .i64 x.v.1, .int .i64 x.v.2.1, .int .i64 x.v.2.2.1, .string x.v.2.2.2]
theorem enSn_len (x : Sn) : (enSn x).length = 5 := rfl
theorem enSn_one (x : Sn) : ∀ u ∈ enSn x, u.oneCell' = true := by intro u hu; simp only [enSn, List.mem_cons, List.mem_nil_iff, or_false] at hu; rcases hu with rfl | rfl | rfl | rfl | rfl <;> rfl
abbrev zvSn : Value := .agg #[.string ⟨#[]⟩, .int .i64 0, .int .i64 0, .int .i64 0, .string ⟨#[]⟩]
theorem infoSn : (Try.prog.info? 66).map (fun i => (i.zero, i.size, i.bytes)) = some (some zvSn, 5, 56) := by kernel_rfl
abbrev bxSn (a_ : ByteArray) (b_ : Int) (c_ : Int) (d_ : Int) (e_ : ByteArray) : Obj := .cells #[.string a_, .int .i64 b_, .int .i64 c_, .int .i64 d_, .string e_] 66
theorem rowSn {W : World} {A : Option Addr} {n c : Nat} {l : List Sn} (h : Row enSn 5 W (.slice A n c) l) (i : Nat) (hi : i < l.length) (a_ : ByteArray) (b_ : Int) (c_ : Int) (d_ : Int) (e_ : ByteArray) (he : l[i] = ⟨a_, b_, c_, d_, e_⟩) :
    ∃ ad, A = some ad ∧ W.cell? (ad.add (i * 5)) = some (.string a_) ∧ W.cell? ⟨(ad.add (i * 5)).block, (ad.add (i * 5)).off + 1, none⟩ = some (.int .i64 b_) ∧ W.cell? ⟨(ad.add (i * 5)).block, (ad.add (i * 5)).off + 2, none⟩ = some (.int .i64 c_) ∧ W.cell? ⟨(ad.add (i * 5)).block, (ad.add (i * 5)).off + 3, none⟩ = some (.int .i64 d_) ∧ W.cell? ⟨(ad.add (i * 5)).block, (ad.add (i * 5)).off + 4, none⟩ = some (.string e_) := by
  obtain ⟨ad, e, hc⟩ := h.get enSn_len i hi
  rw [he] at hc
  exact ⟨ad, e, hc 0 (by omega), hc 1 (by omega), hc 2 (by omega), hc 3 (by omega), hc 4 (by omega)⟩
theorem rowsSn {W : World} {ad : Addr} {n c : Nat} {l : List Sn} (h : Row enSn 5 W (.slice (some ad) n c) l) (i : Nat) (hi : i < l.length) (a_ : ByteArray) (b_ : Int) (c_ : Int) (d_ : Int) (e_ : ByteArray) (he : l[i] = ⟨a_, b_, c_, d_, e_⟩) :
    W.cell? (ad.add (i * 5)) = some (.string a_) ∧ W.cell? ⟨(ad.add (i * 5)).block, (ad.add (i * 5)).off + 1, none⟩ = some (.int .i64 b_) ∧ W.cell? ⟨(ad.add (i * 5)).block, (ad.add (i * 5)).off + 2, none⟩ = some (.int .i64 c_) ∧ W.cell? ⟨(ad.add (i * 5)).block, (ad.add (i * 5)).off + 3, none⟩ = some (.int .i64 d_) ∧ W.cell? ⟨(ad.add (i * 5)).block, (ad.add (i * 5)).off + 4, none⟩ = some (.string e_) := by
  obtain ⟨ad', e, hc⟩ := rowSn h i hi a_ b_ c_ d_ e_ he
  injection e with e
  subst e
  exact hc
theorem cellsSn {W : World} {g : Nat} (a_ : ByteArray) (b_ : Int) (c_ : Int) (d_ : Int) (e_ : ByteArray) (h : W.heap[g]? = some (bxSn a_ b_ c_ d_ e_)) :
    W.cell? ⟨g, 0, none⟩ = some (.string a_) ∧ W.cell? ⟨g, 1, none⟩ = some (.int .i64 b_) ∧ W.cell? ⟨g, 2, none⟩ = some (.int .i64 c_) ∧ W.cell? ⟨g, 3, none⟩ = some (.int .i64 d_) ∧ W.cell? ⟨g, 4, none⟩ = some (.string e_) ∧ g < W.heap.size :=
  ⟨by simp [World.cell?, h], by simp [World.cell?, h], by simp [World.cell?, h], by simp [World.cell?, h], by simp [World.cell?, h], (Array.getElem?_eq_some_iff.1 h).1⟩
set_option maxHeartbeats 8000000 in
set_option maxRecDepth 100000 in
theorem neqSn (a_ : ByteArray) (b_ : Int) (c_ : Int) (d_ : Int) (e_ : ByteArray) (a_' : ByteArray) (b_' : Int) (c_' : Int) (d_' : Int) (e_' : ByteArray) (W : World) :
    (binOp .neq 66 (.agg #[.string a_, .int .i64 b_, .int .i64 c_, .int .i64 d_, .string e_]) (.agg #[.string a_', .int .i64 b_', .int .i64 c_', .int .i64 d_', .string e_'])).run Try.prog W = .ok (.bool (!(a_.toList == a_'.toList && (b_ == b_' && (c_ == c_' && (d_ == d_' && (e_.toList == e_'.toList))))))) W := by
  cases h0 : a_.toList == a_'.toList
  · simp [go_sem, h0]
  cases h1 : b_ == b_'
  · simp [go_sem, h0, h1]
  cases h2 : c_ == c_'
  · simp [go_sem, h0, h1, h2]
  cases h3 : d_ == d_'
  · simp [go_sem, h0, h1, h2, h3]
  cases h4 : e_.toList == e_'.toList <;> simp [go_sem, h0, h1, h2, h3, h4]
set_option maxHeartbeats 8000000 in
set_option maxRecDepth 100000 in
theorem eqlSn (a_ : ByteArray) (b_ : Int) (c_ : Int) (d_ : Int) (e_ : ByteArray) (a_' : ByteArray) (b_' : Int) (c_' : Int) (d_' : Int) (e_' : ByteArray) (W : World) :
    (binOp .eql 66 (.agg #[.string a_, .int .i64 b_, .int .i64 c_, .int .i64 d_, .string e_]) (.agg #[.string a_', .int .i64 b_', .int .i64 c_', .int .i64 d_', .string e_'])).run Try.prog W = .ok (.bool ((a_.toList == a_'.toList && (b_ == b_' && (c_ == c_' && (d_ == d_' && (e_.toList == e_'.toList))))))) W := by
  cases h0 : a_.toList == a_'.toList
  · simp [go_sem, h0]
  cases h1 : b_ == b_'
  · simp [go_sem, h0, h1]
  cases h2 : c_ == c_'
  · simp [go_sem, h0, h1, h2]
  cases h3 : d_ == d_'
  · simp [go_sem, h0, h1, h2, h3]
  cases h4 : e_.toList == e_'.toList <;> simp [go_sem, h0, h1, h2, h3, h4]
theorem eqvSn (a_ : ByteArray) (b_ : Int) (c_ : Int) (d_ : Int) (e_ : ByteArray) (a_' : ByteArray) (b_' : Int) (c_' : Int) (d_' : Int) (e_' : ByteArray) : (a_.toList == a_'.toList && (b_ == b_' && (c_ == c_' && (d_ == d_' && (e_.toList == e_'.toList))))) = decide ((⟨a_, b_, c_, d_, e_⟩ : Sn) = ⟨a_', b_', c_', d_', e_'⟩) := by
  rw [Bool.eq_iff_iff, decide_eq_true_eq]
  simp only [Bool.and_eq_true, beq_iff_eq, toList_inj', Sn.mk.injEq, Prod.mk.injEq]
end Go.Proofs.Ytcopiimflloooaa
