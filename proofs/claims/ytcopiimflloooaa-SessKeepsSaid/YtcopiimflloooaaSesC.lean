/-
Contracts: keys of sessions, how they stand, whether a session may be.
-/
import Derived.Test.YtcopiimflloooaaSeSt
import Derived.Test.YtcopiimflloooaaWk
import Derived.Test.YtcopiimflloooaaLaw03a
import Derived.Test.YtcopiimflloooaaValB
import Derived.Deep.QuietTactic
import Derived.BigQuiet
import Derived.Deep.RegionHeld3
set_option linter.unusedVariables false
set_option linter.unusedSimpArgs false
namespace Go.Proofs.Ytcopiimflloooaa
open Go.RowKit
open Sp
abbrev ag6 (u : ByteArray) (i a p n : Int) (t : ByteArray) : Value := .agg #[.string u, .int .i64 i, .int .i64 a, .int .i64 p, .int .i64 n, .string t]
abbrev agK (u : ByteArray) (i : Int) : Value := .agg #[.string u, .int .i64 i]
set_option maxHeartbeats 4000000 in
set_option maxRecDepth 100000 in
theorem of_calls (u : ByteArray) (i a p n : Int) (t : ByteArray) (w : World) :
    Calls Try.prog 49 #[ag6 u i a p n t] w fun e w' => e = .returned (agK u i) ∧ Below w.heap.size w w' := by
  go_enter Try.func49, Try.ntmps49
  go_wp2
  exact bodyPost_ret (v := agK u i) (by simp [results, Try.results49, go_sem]) rfl ⟨rfl, below_alloc0 (below_alloc0 (Below.refl _ _) _) _⟩
set_option maxHeartbeats 8000000 in
set_option maxRecDepth 100000 in
theorem ahead_calls (u : ByteArray) (i : Int) (u' : ByteArray) (i' : Int) (w : World) :
    Calls Try.prog 50 #[agK u i, agK u' i'] w fun e w' => e = .returned (.bool (ltSe (u, i) (u', i'))) ∧ Below w.heap.size w w' := by
  obtain ⟨b, hb⟩ : ∃ b, less u u' = b := ⟨_, rfl⟩
  have HL := Lib.hid hb
  obtain ⟨r, hr⟩ : ∃ r, ltSe (u, i) (u', i') = r := ⟨_, rfl⟩
  rw [hr]
  unfold ltSe at hr
  simp only [hb] at hr
  have HR := Lib.hid hr
  clear hb hr
  go_enter Try.func50, Try.ntmps50
  go_wp2_with (go_at_call 73; refine (Less_is _ u u' b HL).mono ?_; rintro e w1 ⟨rfl, b1⟩; obtain ⟨hc, hf⟩ := bcell b1; have hz : w.heap.size + 1 < w1.heap.size := (by have := b1.size; simp at this; omega); have B1 := below_call (below_alloc0 (below_alloc0 (Below.refl _ _) _) _) b1; clear b1)
  all_goals (try go_ret)
  all_goals (refine ⟨ret_bool ?_, by assumption⟩)
  all_goals (have hr := HR.out; clear HR HL)
  all_goals (subst hr)
  all_goals (try (simp_all; done))
  all_goals (simp_all [toList_inj'])
set_option maxHeartbeats 8000000 in
set_option maxRecDepth 100000 in
theorem oddS_calls (u : ByteArray) (i a p n : Int) (t : ByteArray) (w : World) (hu : u.size ≤ 140737488351232) (ht : t.size ≤ 140737488351232) :
    Calls Try.prog 52 #[ag6 u i a p n t] w fun e w' => e = .returned (.bool (!oneS ⟨u, i, a, p, n, t⟩)) ∧ Below w.heap.size w w' := by
  go_enter Try.func52, Try.ntmps52
  go_wp2_with (first | (go_at_call 71; refine (Is_calls _ _ (by assumption)).mono ?_; rintro e w2 ⟨rfl, b2⟩; have B2 := below_call (by first | assumption | exact below_box _) b2; obtain ⟨hc2, hf2⟩ := bcell b2; have hz2 : w.heap.size < w2.heap.size := Nat.lt_of_lt_of_le (by first | assumption | simp) b2.size; clear b2) | (go_at_call 72; refine (may_calls _ _ _ _ _ (by assumption)).mono ?_; rintro e w1 ⟨rfl, b1⟩; have B2 := below_call (by first | assumption | exact below_box _) b1))
  all_goals (try go_ret)
  all_goals (refine ⟨ret_bool ?_, by first | assumption | exact below_box _⟩)
  all_goals (unfold oneS)
  all_goals (try (simp_all; done))
  all_goals (try (simp_all; omega))
set_option maxHeartbeats 8000000 in
set_option maxRecDepth 100000 in
theorem refOne_calls (u : ByteArray) (i a p n : Int) (t : ByteArray) (w : World) (hu : u.size ≤ 140737488351232) (ht : t.size ≤ 140737488351232) :
    Calls Try.prog 30 #[ag6 u i a p n t] w fun e w' => e = .returned (.bool (oneS ⟨u, i, a, p, n, t⟩)) ∧ Below w.heap.size w w' := by
  go_enter Try.func30, Try.ntmps30
  go_wp2_with (first | (go_at_call 61; refine (refIs_calls _ _ (by assumption)).mono ?_; rintro e w2 ⟨rfl, rfl⟩) | (go_at_call 62; refine (refMay_calls _ _ _ _ _ (by assumption)).mono ?_; rintro e w1 ⟨rfl, b1⟩; have B2 := below_call (below_box _) b1))
  all_goals (try go_ret)
  all_goals (refine ⟨ret_bool ?_, by first | assumption | exact below_box _⟩)
  all_goals (unfold oneS)
  all_goals (try (simp_all; done))
  all_goals (try (simp_all; omega))
set_option maxHeartbeats 8000000 in
set_option maxRecDepth 100000 in
theorem refAheadS_calls (u : ByteArray) (i a p n : Int) (t u' : ByteArray) (i' a' p' n' : Int) (t' : ByteArray) (w : World) :
    Calls Try.prog 53 #[ag6 u i a p n t, ag6 u' i' a' p' n' t'] w fun e w' => e = .returned (.bool (ltSe (u, i) (u', i'))) ∧ Below w.heap.size w w' := by
  obtain ⟨b, hb⟩ : ∃ b, less u u' = b := ⟨_, rfl⟩
  have HL := Lib.hid hb
  obtain ⟨r, hr⟩ : ∃ r, ltSe (u, i) (u', i') = r := ⟨_, rfl⟩
  rw [hr]
  unfold ltSe at hr
  simp only [hb] at hr
  have HR := Lib.hid hr
  clear hb hr
  go_enter Try.func53, Try.ntmps53
  go_wp2_with (go_at_call 29; refine (refLess_is _ u u' b HL).mono ?_; rintro e w1 ⟨rfl, rfl⟩)
  all_goals (try go_ret)
  all_goals (refine ⟨ret_bool ?_, below_alloc0 (below_alloc0 (Below.refl _ _) _) _⟩)
  all_goals (have hr := HR.out; clear HR HL)
  all_goals (subst hr)
  all_goals (try (simp_all; done))
  all_goals (simp_all [toList_inj'])
end Go.Proofs.Ytcopiimflloooaa
