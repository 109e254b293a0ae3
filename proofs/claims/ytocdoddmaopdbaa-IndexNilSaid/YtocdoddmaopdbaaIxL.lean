/-
Layer 13: the walk of IndexNil.
-/
import Derived.Test.YtocdoddmaopdbaaIxH
set_option linter.unusedVariables false
set_option linter.unusedSimpArgs false
namespace Go.Proofs.Ytocdoddmaopdbaa
open Go.RowKit Go.Maps
open Sp
set_option maxHeartbeats 16000000 in
set_option maxRecDepth 100000 in
theorem nil13_walk (p q : ByteArray) (w : World) (hp : p.size ≤ 9223372036854775807) (hq : q.size ≤ 9223372036854775807) :
    Calls Try.prog 6 #[.string p, .string q] w fun e w' => e = .returned (.bool true) ∧ Below w.heap.size w w' := by
  by_cases h1 : (40 : Int) < (p.size : Int)
  · go_enter Try.func6, Try.ntmps6
    go_wp2_with fail
    with_reducible refine (live13 _).mono ?_
    rintro e w1 ⟨rfl, b1⟩
    go_wp2
    go_ret
    exact ⟨rfl, b1⟩
  · by_cases h2 : (40 : Int) < (q.size : Int)
    · go_enter Try.func6, Try.ntmps6
      go_wp2_with fail
      with_reducible refine (live13 _).mono ?_
      rintro e w1 ⟨rfl, b1⟩
      go_wp2
      go_ret
      exact ⟨rfl, b1⟩
    · go_enter Try.func6, Try.ntmps6
      go_wp2_with fail
      with_reducible refine (nil_set _ p q true).mono ?_
      rintro e w1 ⟨rfl, D⟩
      go_wp2_with fail
      with_reducible refine (nil_has _ p q).mono ?_
      rintro e w2 ⟨rfl, b⟩
      replace D := below_call D b
      clear b
      go_wp2_with fail
      with_reducible refine (nil_watchers _ q).mono ?_
      rintro e w3 ⟨rfl, b⟩
      replace D := below_call D b
      clear b
      go_wp2_with fail
      with_reducible refine (nil_contacts _ p).mono ?_
      rintro e w4 ⟨rfl, b⟩
      replace D := below_call D b
      clear b
      go_wp2_with fail
      with_reducible refine (nil_forget _ p).mono ?_
      rintro e w5 ⟨rfl, b⟩
      replace D := below_call D b
      clear b
      go_wp2_with fail
      with_reducible refine (nil_len _).mono ?_
      rintro e w6 ⟨rfl, b⟩
      replace D := below_call D b
      clear b
      go_wp2_with fail
      with_reducible refine (live13 _).mono ?_
      rintro e w7 ⟨rfl, b⟩
      replace D := below_call D b
      clear b
      go_wp2
      go_ret
      exact ⟨rfl, D⟩
end Go.Proofs.Ytocdoddmaopdbaa
