/-
Contracts: two items that face one another (layer 7), by the program and by the document.
-/
import Derived.Test.YtpmafghknafhaaaItSt
import Derived.Test.YtpmafghknafhaaaRosD
import Derived.Test.YtpmafghknafhaaaWk
import Derived.Test.YtpmafghknafhaaaLib
import Derived.RegionTactic
set_option linter.unusedVariables false
set_option linter.unusedSimpArgs false
namespace Go.Proofs.Ytpmafghknafhaaa
open Go.RowKit
open Sp
abbrev agI (a b c d e : Bool) : Value := .agg #[.bool a, .bool b, .bool c, .bool d, .bool e]
abbrev agP (a b c d e a' b' c' d' e' : Bool) : Value := .agg #[.bool a, .bool b, .bool c, .bool d, .bool e, .bool a', .bool b', .bool c', .bool d', .bool e']
set_option maxHeartbeats 8000000 in
set_option maxRecDepth 100000 in
theorem blocked_calls (a b c d e a' b' c' d' e' : Bool) (w : World) :
    Calls Try.prog 60 #[agP a b c d e a' b' c' d' e'] w fun x w' => x = .returned (.bool (e || e')) ∧ Below w.heap.size w w' := by
  have hB := below_box (w := w) (.cells #[.bool a, .bool b, .bool c, .bool d, .bool e, .bool a', .bool b', .bool c', .bool d', .bool e'] 86)
  go_enter Try.func60, Try.ntmps60
  cases e <;> cases e'
  all_goals go_wp2
  all_goals go_ret
  all_goals exact ⟨rfl, hB⟩
set_option maxHeartbeats 8000000 in
set_option maxRecDepth 100000 in
theorem refMayI_calls (a b c d e a' b' c' d' e' : Bool) (w : World) :
    Calls Try.prog 43 #[agI a b c d e, agI a' b' c' d' e'] w fun x w' => x = .returned (.bool (fitI ⟨a, b, c, d, e⟩ ⟨a', b', c', d', e'⟩)) ∧ Below w.heap.size w w' := by
  go_enter Try.func43, Try.ntmps43
  go_wp2
  all_goals (try go_ret)
  all_goals (refine ⟨ret_bool ?_, by first | assumption | exact below_alloc0 (below_box _) _⟩)
  all_goals (unfold fitI)
  all_goals (simp_all)
set_option maxHeartbeats 8000000 in
set_option maxRecDepth 100000 in
theorem fits_calls (a b c d e a' b' c' d' e' : Bool) (w : World) :
    Calls Try.prog 59 #[agP a b c d e a' b' c' d' e'] w fun x w' => x = .returned (.bool (fitI ⟨a, b, c, d, e⟩ ⟨a', b', c', d', e'⟩)) ∧ Below w.heap.size w w' := by
  go_enter Try.func59, Try.ntmps59
  go_wp2_with fail
  go_region
  all_goals go_wp2
  all_goals (try go_ret)
  all_goals (refine ⟨ret_bool ?_, ?_⟩)
  all_goals (first | exact (below_alloc0 (below_alloc0 (below_box _) _) _).drew | exact below_alloc0 (below_alloc0 (below_box _) _) _ | skip)
  all_goals (unfold fitI)
  all_goals (simp_all)
set_option maxHeartbeats 8000000 in
set_option maxRecDepth 100000 in
theorem MayI_calls (a b c d e a' b' c' d' e' : Bool) (w : World) :
    Calls Try.prog 30 #[agI a b c d e, agI a' b' c' d' e'] w fun x w' => x = .returned (.bool (fitI ⟨a, b, c, d, e⟩ ⟨a', b', c', d', e'⟩)) ∧ Below w.heap.size w w' := by
  have hB := below_alloc0 (below_box (w := w) (.cells #[.bool a, .bool b, .bool c, .bool d, .bool e] 26)) (.cells #[.bool a', .bool b', .bool c', .bool d', .bool e'] 26)
  obtain ⟨r, hr⟩ : ∃ r, fitI ⟨a, b, c, d, e⟩ ⟨a', b', c', d', e'⟩ = r := ⟨_, rfl⟩
  rw [hr]
  have HR := Lib.hid hr
  clear hr
  go_enter Try.func30, Try.ntmps30
  go_wp2_with fail
  with_reducible refine (re_ (fits_calls a b c d e a' b' c' d' e' _) (ret_bool HR.out)).mono ?_
  rintro x w1 ⟨rfl, b1⟩
  go_wp2
  go_ret
  exact ⟨rfl, below_call hB b1⟩
set_option maxHeartbeats 8000000 in
set_option maxRecDepth 100000 in
theorem EmptyI_calls (a b c d e : Bool) (w : World) :
    Calls Try.prog 39 #[agI a b c d e] w fun x w' => x = .returned (.bool (emptyI ⟨a, b, c, d, e⟩)) ∧ Below w.heap.size w w' := by
  have hB := below_box (w := w) (.cells #[.bool a, .bool b, .bool c, .bool d, .bool e] 26)
  have hc := eqlIt a b c d e false false false false false
  rw [eqvIt] at hc
  go_enter Try.func39, Try.ntmps39
  go_wp2
  go_ret
  exact ⟨ret_bool (by cases a <;> cases b <;> cases c <;> cases d <;> cases e <;> rfl), hB⟩
set_option maxHeartbeats 8000000 in
set_option maxRecDepth 100000 in
theorem refEmptyI_calls (a b c d e : Bool) (w : World) :
    Calls Try.prog 44 #[agI a b c d e] w fun x w' => x = .returned (.bool (emptyI ⟨a, b, c, d, e⟩)) ∧ Below w.heap.size w w' := by
  have hB := below_box (w := w) (.cells #[.bool a, .bool b, .bool c, .bool d, .bool e] 26)
  have hc := eqlIt a b c d e false false false false false
  rw [eqvIt] at hc
  go_enter Try.func44, Try.ntmps44
  go_wp2
  go_ret
  exact ⟨ret_bool (by cases a <;> cases b <;> cases c <;> cases d <;> cases e <;> rfl), hB⟩
set_option maxHeartbeats 8000000 in
set_option maxRecDepth 100000 in
theorem refSeesI_calls (a b c d e a' b' c' d' e' : Bool) (w : World) :
    Calls Try.prog 45 #[agI a b c d e, agI a' b' c' d' e'] w fun x w' => x = .returned (.bool (seesI ⟨a, b, c, d, e⟩ ⟨a', b', c', d', e'⟩)) ∧ Below w.heap.size w w' := by
  have hB := below_alloc0 (below_box (w := w) (.cells #[.bool a, .bool b, .bool c, .bool d, .bool e] 26)) (.cells #[.bool a', .bool b', .bool c', .bool d', .bool e'] 26)
  unfold seesI
  go_enter Try.func45, Try.ntmps45
  cases a <;> cases e <;> cases e'
  all_goals go_wp2
  all_goals go_ret
  all_goals exact ⟨rfl, below_alloc0 (below_box _) _⟩
set_option maxHeartbeats 8000000 in
set_option maxRecDepth 100000 in
theorem SeesI_calls (a b c d e a' b' c' d' e' : Bool) (w : World) :
    Calls Try.prog 27 #[agI a b c d e, agI a' b' c' d' e'] w fun x w' => x = .returned (.bool (seesI ⟨a, b, c, d, e⟩ ⟨a', b', c', d', e'⟩)) ∧ Below w.heap.size w w' := by
  unfold seesI
  cases a with
  | false =>
    go_enter Try.func27, Try.ntmps27
    go_wp2
    go_ret
    exact ⟨rfl, below_alloc0 (below_box _) _⟩
  | true =>
    obtain ⟨r, hr⟩ : ∃ r, (e || e') = r := ⟨_, rfl⟩
    have hR : (!e && !e') = !r := by rw [← hr]; cases e <;> cases e' <;> rfl
    have HR := Lib.hid hr
    rw [show (true && (!e && !e')) = !r by rw [hR]; rfl]
    clear hr hR
    go_enter Try.func27, Try.ntmps27
    go_wp2_with fail
    with_reducible refine (re_ (blocked_calls true b c d e a' b' c' d' e' _) (ret_bool HR.out)).mono ?_
    rintro x w1 ⟨rfl, b1⟩
    go_wp2
    go_ret
    exact ⟨rfl, below_call (below_alloc0 (below_box _) _) b1⟩
end Go.Proofs.Ytpmafghknafhaaa
