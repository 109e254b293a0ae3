/-
Layer 23: whether an event may be, by the program.
-/
import Derived.Test.YtobhlcogopcbdaaScrA
set_option linter.unusedVariables false
set_option linter.unusedSimpArgs false
namespace Go.Proofs.Ytobhlcogopcbdaa
open Go.RowKit
open Sp

def hasK (k : Int) : Int := if 1 ≤ k ∧ k ≤ 6 then 1 else if k = 7 then 6 else if k = 8 then 2 else 0
set_option maxHeartbeats 2000000 in
set_option maxRecDepth 100000 in
theorem has_calls (k : Int) (w : World) : Calls Try.prog 64 #[.int .i64 k] w fun e w' => e = .returned (.int .i64 (hasK k)) ∧ w = w' := by
  go_enter Try.func64, Try.ntmps64
  go_wp2
  all_goals (try go_ret)
  all_goals (refine ⟨ret_int ?_, rfl⟩)
  all_goals (unfold hasK)
  all_goals (try (simp_all; done))
  all_goals (try (simp_all; omega))
theorem name_ne (o : ByteArray) (h : isName o = true) : o.toList ≠ [] := fun e => by
  have := ((isName_iff o).mp h).1
  rw [toList_nil_iff] at e
  omega
theorem has_is (k c : Int) (w : World) (h : Hid (hasK k = c)) : Calls Try.prog 64 #[.int .i64 k] w fun e w' => e = .returned (.int .i64 c) ∧ w = w' := re_ (has_calls k w) (by rw [h.out])

set_option maxHeartbeats 20000000 in
set_option maxRecDepth 100000 in
theorem mayE_1 (k : Int) (u o : ByteArray) (i a p n : Int) (t : ByteArray) (w : World) (hu : u.size ≤ 140737488351232) (ho : o.size ≤ 140737488351232) (ht : t.size ≤ 140737488351232) (h1 : 1 ≤ k) (h6 : k ≤ 6) :
    Calls Try.prog 41 #[.agg #[.int .i64 k, .string u, .string o, .int .i64 i, .int .i64 a, .int .i64 p, .int .i64 n, .string t]] w fun e w' => e = .returned (.bool (mayE8 k u o i a p n t)) ∧ Below w.heap.size w w' := by
  have e1 : bits .and .i64 1 1 = 1 := by decide
  have e2 : bits .and .i64 1 2 = 0 := by decide
  have e4 : bits .and .i64 1 4 = 0 := by decide
  go_enter Try.func41, Try.ntmps41
  go_wp2_with (first | (go_at_call 64; refine (has_is _ 1 _ (by unfold Hid; unfold hasK; rw [if_pos ⟨h1, h6⟩])).mono ?_; rintro e w1 ⟨rfl, rfl⟩) | (go_at_call 20; refine (Is_calls _ _ (by assumption)).mono ?_; rintro e w2 ⟨rfl, b2⟩; have B2 := below_call (by first | assumption | exact below_box _) b2; obtain ⟨hc2, hf2⟩ := bcell b2; have hz2 : w.heap.size < w2.heap.size := Nat.lt_of_lt_of_le (by first | assumption | simp) b2.size; clear b2) | (go_at_call 67; refine (may_calls _ _ _ _ _ (by assumption)).mono ?_; rintro e w1 ⟨rfl, b1⟩; have B2 := below_call (by first | assumption | exact below_box _) b1))
  all_goals (try go_ret)
  all_goals (refine ⟨ret_bool ?_, by first | assumption | exact below_box _⟩)
  all_goals (unfold mayE8 isZ)
  all_goals (try (simp_all; done))
  all_goals (try (simp_all; omega))

set_option maxHeartbeats 20000000 in
set_option maxRecDepth 100000 in
theorem mayE_7 (k : Int) (u o : ByteArray) (i a p n : Int) (t : ByteArray) (w : World) (hu : u.size ≤ 140737488351232) (ho : o.size ≤ 140737488351232) (ht : t.size ≤ 140737488351232) (h7 : k = 7) :
    Calls Try.prog 41 #[.agg #[.int .i64 k, .string u, .string o, .int .i64 i, .int .i64 a, .int .i64 p, .int .i64 n, .string t]] w fun e w' => e = .returned (.bool (mayE8 k u o i a p n t)) ∧ Below w.heap.size w w' := by
  have e1 : bits .and .i64 6 1 = 0 := by decide
  have e2 : bits .and .i64 6 2 = 2 := by decide
  have e4 : bits .and .i64 6 4 = 4 := by decide
  go_enter Try.func41, Try.ntmps41
  go_wp2_with (first | (go_at_call 64; refine (has_is _ 6 _ (by unfold Hid; unfold hasK; subst h7; rfl)).mono ?_; rintro e w1 ⟨rfl, rfl⟩) | (go_at_call 20; refine (Is_calls _ _ (by assumption)).mono ?_; rintro e w2 ⟨rfl, b2⟩; have B2 := below_call (by first | assumption | exact below_box _) b2; obtain ⟨hc2, hf2⟩ := bcell b2; have hz2 : w.heap.size < w2.heap.size := Nat.lt_of_lt_of_le (by first | assumption | simp) b2.size; clear b2) | (go_at_call 67; refine (may_calls _ _ _ _ _ (by assumption)).mono ?_; rintro e w1 ⟨rfl, b1⟩; have B2 := below_call (by first | assumption | exact below_box _) b1))
  all_goals (try go_ret)
  all_goals (refine ⟨ret_bool ?_, by first | assumption | exact below_box _⟩)
  all_goals (unfold mayE8 isZ)
  all_goals (try (simp_all; done))
  all_goals (try (simp_all; omega))
  all_goals (rename_i hq; have hne := name_ne o hq; simp_all)

set_option maxHeartbeats 20000000 in
set_option maxRecDepth 100000 in
theorem mayE_8 (k : Int) (u o : ByteArray) (i a p n : Int) (t : ByteArray) (w : World) (hu : u.size ≤ 140737488351232) (ho : o.size ≤ 140737488351232) (ht : t.size ≤ 140737488351232) (h8 : k = 8) :
    Calls Try.prog 41 #[.agg #[.int .i64 k, .string u, .string o, .int .i64 i, .int .i64 a, .int .i64 p, .int .i64 n, .string t]] w fun e w' => e = .returned (.bool (mayE8 k u o i a p n t)) ∧ Below w.heap.size w w' := by
  have e1 : bits .and .i64 2 1 = 0 := by decide
  have e2 : bits .and .i64 2 2 = 2 := by decide
  have e4 : bits .and .i64 2 4 = 0 := by decide
  go_enter Try.func41, Try.ntmps41
  go_wp2_with (first | (go_at_call 64; refine (has_is _ 2 _ (by unfold Hid; unfold hasK; subst h8; rfl)).mono ?_; rintro e w1 ⟨rfl, rfl⟩) | (go_at_call 20; refine (Is_calls _ _ (by assumption)).mono ?_; rintro e w2 ⟨rfl, b2⟩; have B2 := below_call (by first | assumption | exact below_box _) b2; obtain ⟨hc2, hf2⟩ := bcell b2; have hz2 : w.heap.size < w2.heap.size := Nat.lt_of_lt_of_le (by first | assumption | simp) b2.size; clear b2) | (go_at_call 67; refine (may_calls _ _ _ _ _ (by assumption)).mono ?_; rintro e w1 ⟨rfl, b1⟩; have B2 := below_call (by first | assumption | exact below_box _) b1))
  all_goals (try go_ret)
  all_goals (refine ⟨ret_bool ?_, by first | assumption | exact below_box _⟩)
  all_goals (unfold mayE8 isZ)
  all_goals (try (simp_all; done))
  all_goals (try (simp_all; omega))
  all_goals (rename_i hq; have hne := name_ne o hq; simp_all)

set_option maxHeartbeats 20000000 in
set_option maxRecDepth 100000 in
theorem mayE_0 (k : Int) (u o : ByteArray) (i a p n : Int) (t : ByteArray) (w : World) (hu : u.size ≤ 140737488351232) (ho : o.size ≤ 140737488351232) (ht : t.size ≤ 140737488351232) (h : k < 1 ∨ 8 < k) :
    Calls Try.prog 41 #[.agg #[.int .i64 k, .string u, .string o, .int .i64 i, .int .i64 a, .int .i64 p, .int .i64 n, .string t]] w fun e w' => e = .returned (.bool (mayE8 k u o i a p n t)) ∧ Below w.heap.size w w' := by
  have e1 : bits .and .i64 0 1 = 0 := by decide
  have e2 : bits .and .i64 0 2 = 0 := by decide
  have e4 : bits .and .i64 0 4 = 0 := by decide
  go_enter Try.func41, Try.ntmps41
  go_wp2_with (first | (go_at_call 64; refine (has_is _ 0 _ (by unfold Hid; unfold hasK; rw [if_neg (by omega), if_neg (by omega), if_neg (by omega)])).mono ?_; rintro e w1 ⟨rfl, rfl⟩) | (go_at_call 20; refine (Is_calls _ _ (by assumption)).mono ?_; rintro e w2 ⟨rfl, b2⟩; have B2 := below_call (by first | assumption | exact below_box _) b2; obtain ⟨hc2, hf2⟩ := bcell b2; have hz2 : w.heap.size < w2.heap.size := Nat.lt_of_lt_of_le (by first | assumption | simp) b2.size; clear b2) | (go_at_call 67; refine (may_calls _ _ _ _ _ (by assumption)).mono ?_; rintro e w1 ⟨rfl, b1⟩; have B2 := below_call (by first | assumption | exact below_box _) b1))
  all_goals (try go_ret)
  all_goals (refine ⟨ret_bool ?_, by first | assumption | exact below_box _⟩)
  all_goals (unfold mayE8 isZ)
  all_goals (try (simp_all; done))
  all_goals (try (simp_all; omega))

theorem mayE_calls (k : Int) (u o : ByteArray) (i a p n : Int) (t : ByteArray) (w : World) (hu : u.size ≤ 140737488351232) (ho : o.size ≤ 140737488351232) (ht : t.size ≤ 140737488351232) :
    Calls Try.prog 41 #[.agg #[.int .i64 k, .string u, .string o, .int .i64 i, .int .i64 a, .int .i64 p, .int .i64 n, .string t]] w fun e w' => e = .returned (.bool (mayE8 k u o i a p n t)) ∧ Below w.heap.size w w' := by
  by_cases h0 : k < 1 ∨ 8 < k
  · exact mayE_0 k u o i a p n t w hu ho ht h0
  by_cases h6 : k ≤ 6
  · exact mayE_1 k u o i a p n t w hu ho ht (by omega) h6
  by_cases h7 : k = 7
  · exact mayE_7 k u o i a p n t w hu ho ht h7
  · exact mayE_8 k u o i a p n t w hu ho ht (by omega)
end Go.Proofs.Ytobhlcogopcbdaa
