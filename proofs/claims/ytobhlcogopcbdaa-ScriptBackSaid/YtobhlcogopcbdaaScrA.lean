/-
Layer 23: events; whether an event may be, by the document's answer and by the program.
-/
import Derived.Test.YtobhlcogopcbdaaValF
import Derived.Test.YtobhlcogopcbdaaCrcD
set_option linter.unusedVariables false
set_option linter.unusedSimpArgs false
namespace Go.Proofs.Ytobhlcogopcbdaa
open Go.RowKit
namespace Sp
structure Ev where
  k : Int
  u : ByteArray
  o : ByteArray
  i : Int
  v : PV
def zeroE : Ev := ⟨0, ⟨#[]⟩, ⟨#[]⟩, 0, zeroV⟩
def isZ (a p n : Int) (t : ByteArray) : Bool := decide (a = 0) && (decide (p = 0) && (decide (n = 0) && decide (t.toList = [])))
def mayE8 (k : Int) (u o : ByteArray) (i a p n : Int) (t : ByteArray) : Bool :=
  if k < 1 ∨ 8 < k ∨ isName u = false then false
  else if k ≤ 6 then isName o && (decide (i = 0) && isZ a p n t)
  else if o.toList ≠ [] ∨ i < 0 ∨ 4 ≤ i then false
  else if k = 7 then mayV a p n t else isZ a p n t
def mayE (e : Ev) : Bool := mayE8 e.k e.u e.o e.i e.v.1 e.v.2.1 e.v.2.2.1 e.v.2.2.2
end Sp
open Sp
def evV (e : Ev) : Value := .agg #[.int .i64 e.k, .string e.u, .string e.o, .int .i64 e.i, .int .i64 e.v.1, .int .i64 e.v.2.1, .int .i64 e.v.2.2.1, .string e.v.2.2.2]

theorem bcell {W w1 : World} (hb : Below W.heap.size W w1) : (∀ b o, b < W.heap.size → w1.cell? ⟨b, o, none⟩ = W.cell? ⟨b, o, none⟩) ∧ (∀ b o, b < W.heap.size → w1.frozen? ⟨b, o, none⟩ = W.frozen? ⟨b, o, none⟩) :=
  ⟨fun b o h => hb.cell (p := ⟨b, o, none⟩) h, fun b o h => hb.frozen (p := ⟨b, o, none⟩) h⟩
theorem below_box {w : World} (o : Obj) : Below w.heap.size w (w.alloc o) := below_alloc0 (Below.refl _ _) o

set_option maxHeartbeats 20000000 in
set_option maxRecDepth 100000 in
theorem refMayE_calls (k : Int) (u o : ByteArray) (i a p n : Int) (t : ByteArray) (w : World) (hu : u.size ≤ 140737488351232) (ho : o.size ≤ 140737488351232) (ht : t.size ≤ 140737488351232) :
    Calls Try.prog 44 #[.agg #[.int .i64 k, .string u, .string o, .int .i64 i, .int .i64 a, .int .i64 p, .int .i64 n, .string t]] w fun e w' => e = .returned (.bool (mayE8 k u o i a p n t)) ∧ Below w.heap.size w w' := by
  go_enter Try.func44, Try.ntmps44
  go_wp2_with (first | (go_at_call 21; refine (refIs_calls _ _ (by assumption)).mono ?_; rintro e w1 ⟨rfl, rfl⟩) | (go_at_call 68; refine (refMay_calls _ _ _ _ _ (by assumption)).mono ?_; rintro e w1 ⟨rfl, b1⟩))
  all_goals (try go_ret)
  all_goals (refine ⟨ret_bool ?_, by first | exact below_alloc0 (Below.refl _ _) _ | exact below_call (below_alloc0 (Below.refl _ _) _) (by assumption)⟩)
  all_goals (unfold mayE8 isZ)
  all_goals (try (simp_all; done))
  all_goals (try (simp_all; omega))
  all_goals (rename_i hq; rcases hq with (hq | hq) | hq; omega; omega; rw [if_pos (.inr (.inr (by simpa using hq)))])
end Go.Proofs.Ytobhlcogopcbdaa
