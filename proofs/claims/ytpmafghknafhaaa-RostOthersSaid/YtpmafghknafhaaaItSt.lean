/-
An item compared with another one.
-/
import Derived.Test.YtpmafghknafhaaaProg
import Derived.Test.YtpmafghknafhaaaLib
import Derived.Test.YtpmafghknafhaaaRosA
set_option linter.unusedVariables false
set_option linter.unusedSimpArgs false
namespace Go.Proofs.Ytpmafghknafhaaa
open Go.RowKit
open Sp
abbrev vaIt (x : It) : Value := .agg #[.bool x.to, .bool x.fr, .bool x.ou, .bool x.in_, .bool x.bl]
set_option maxHeartbeats 8000000 in
set_option maxRecDepth 100000 in
theorem neqIt (a_ b_ c_ d_ e_ a_' b_' c_' d_' e_' : Bool) (W : World) :
    (binOp .neq 26 (.agg #[.bool a_, .bool b_, .bool c_, .bool d_, .bool e_]) (.agg #[.bool a_', .bool b_', .bool c_', .bool d_', .bool e_'])).run Try.prog W = .ok (.bool (!(a_ == a_' && (b_ == b_' && (c_ == c_' && (d_ == d_' && (e_ == e_'))))))) W := by
  cases h0 : a_ == a_'
  · simp [go_sem, h0]
  cases h1 : b_ == b_'
  · simp [go_sem, h0, h1]
  cases h2 : c_ == c_'
  · simp [go_sem, h0, h1, h2]
  cases h3 : d_ == d_'
  · simp [go_sem, h0, h1, h2, h3]
  cases h4 : e_ == e_' <;> simp [go_sem, h0, h1, h2, h3, h4]
set_option maxHeartbeats 8000000 in
set_option maxRecDepth 100000 in
theorem eqlIt (a_ b_ c_ d_ e_ a_' b_' c_' d_' e_' : Bool) (W : World) :
    (binOp .eql 26 (.agg #[.bool a_, .bool b_, .bool c_, .bool d_, .bool e_]) (.agg #[.bool a_', .bool b_', .bool c_', .bool d_', .bool e_'])).run Try.prog W = .ok (.bool ((a_ == a_' && (b_ == b_' && (c_ == c_' && (d_ == d_' && (e_ == e_'))))))) W := by
  cases h0 : a_ == a_'
  · simp [go_sem, h0]
  cases h1 : b_ == b_'
  · simp [go_sem, h0, h1]
  cases h2 : c_ == c_'
  · simp [go_sem, h0, h1, h2]
  cases h3 : d_ == d_'
  · simp [go_sem, h0, h1, h2, h3]
  cases h4 : e_ == e_' <;> simp [go_sem, h0, h1, h2, h3, h4]
theorem eqvIt (a_ b_ c_ d_ e_ a_' b_' c_' d_' e_' : Bool) : (a_ == a_' && (b_ == b_' && (c_ == c_' && (d_ == d_' && (e_ == e_'))))) = decide ((⟨a_, b_, c_, d_, e_⟩ : It) = ⟨a_', b_', c_', d_', e_'⟩) := by
  rw [Bool.eq_iff_iff, decide_eq_true_eq]
  simp only [Bool.and_eq_true, beq_iff_eq, It.mk.injEq]
end Go.Proofs.Ytpmafghknafhaaa
