/-
The walk of the statement IdentOrder: it returns true whatever the input.
-/
import Derived.Test.YtobhlcogopcbdaaLaw03a
import Derived.BigQuiet
namespace Go.Proofs.Ytobhlcogopcbdaa
open Go.RowKit Sp

set_option maxHeartbeats 2000000 in
set_option maxRecDepth 100000 in
theorem order_walk (a b c : ByteArray) (w : World) : Calls Try.prog 7 #[.agg #[.string a, .string b, .string c]] w fun e w' => e = .returned (.bool true) ∧ Below w.heap.size w w' := by
  have b0 : ∀ n o, Below w.heap.size w ((w.alloc o).drewN n) := fun n o => below_drewN (below_alloc (Below.refl _ _) _) _
  by_cases ha : (a.size : Int) > 100
  · go_enter Try.func7, Try.ntmps7
    go_wp2
    go_quiet (fail)
    go_wp2_with fail
    refine (live03 _).mono ?_
    rintro e w1 ⟨rfl, b1⟩
    replace b1 := below_call (b0 _ _) b1
    go_wp2
    go_ret
    exact ⟨rfl, b1⟩
  by_cases hb : (b.size : Int) > 100
  · go_enter Try.func7, Try.ntmps7
    go_wp2
    go_quiet (fail)
    go_wp2_with fail
    refine (live03 _).mono ?_
    rintro e w1 ⟨rfl, b1⟩
    replace b1 := below_call (b0 _ _) b1
    go_wp2
    go_ret
    exact ⟨rfl, b1⟩
  by_cases hc : (c.size : Int) > 100
  · go_enter Try.func7, Try.ntmps7
    go_wp2
    go_quiet (fail)
    go_wp2_with fail
    refine (live03 _).mono ?_
    rintro e w1 ⟨rfl, b1⟩
    replace b1 := below_call (b0 _ _) b1
    go_wp2
    go_ret
    exact ⟨rfl, b1⟩
  have ha' : decide (100 < (a.size : Int)) = false := decide_eq_false ha
  have hb' : decide (100 < (b.size : Int)) = false := decide_eq_false hb
  have hc' : decide (100 < (c.size : Int)) = false := decide_eq_false hc
  cases hab : less a b with
  | true =>
    have hba := less_asymm a b hab
    have hne : (a.toList == b.toList) = false := by
      rw [beq_eq_false_iff_ne]
      intro e
      rw [toList_inj'] at e
      rw [e, less_irrefl] at hab
      cases hab
    have H1 : Hid (less a b = true) := hab
    have H2 : Hid (less b a = false) := hba
    cases hbc : less b c with
    | false =>
      have H3 : Hid (less b c = false) := hbc
      clear hab hba hbc
      go_enter Try.func7, Try.ntmps7
      go_wp2
      go_quiet (fail)
      go_wp2_with fail
      refine (Less_is _ a b _ H1).mono ?_
      rintro e w1 ⟨rfl, b1⟩
      replace b1 := below_call (b0 _ _) b1
      go_wp2_with fail
      refine (Less_is _ b a _ H2).mono ?_
      rintro e w2 ⟨rfl, b2⟩
      replace b2 := below_call b1 b2
      clear b1
      go_wp2_with fail
      refine (Less_is _ a b _ H1).mono ?_
      rintro e w3 ⟨rfl, b3⟩
      replace b3 := below_call b2 b3
      clear b2
      go_wp2_with fail
      refine (Less_is _ b c _ H3).mono ?_
      rintro e w4 ⟨rfl, b4⟩
      replace b4 := below_call b3 b4
      clear b3
      go_wp2_with fail
      refine (live03 _).mono ?_
      rintro e w5 ⟨rfl, b5⟩
      replace b5 := below_call b4 b5
      clear b4
      go_wp2
      go_ret
      exact ⟨rfl, b5⟩
    | true =>
      have H3 : Hid (less b c = true) := hbc
      have H4 : Hid (less a c = true) := less_trans a b c hab hbc
      clear hab hba hbc
      go_enter Try.func7, Try.ntmps7
      go_wp2
      go_quiet (fail)
      go_wp2_with fail
      refine (Less_is _ a b _ H1).mono ?_
      rintro e w1 ⟨rfl, b1⟩
      replace b1 := below_call (b0 _ _) b1
      go_wp2_with fail
      refine (Less_is _ b a _ H2).mono ?_
      rintro e w2 ⟨rfl, b2⟩
      replace b2 := below_call b1 b2
      clear b1
      go_wp2_with fail
      refine (Less_is _ a b _ H1).mono ?_
      rintro e w3 ⟨rfl, b3⟩
      replace b3 := below_call b2 b3
      clear b2
      go_wp2_with fail
      refine (Less_is _ b c _ H3).mono ?_
      rintro e w4 ⟨rfl, b4⟩
      replace b4 := below_call b3 b4
      clear b3
      go_wp2_with fail
      refine (Less_is _ a c _ H4).mono ?_
      rintro e w5 ⟨rfl, b5⟩
      replace b5 := below_call b4 b5
      clear b4
      go_wp2_with fail
      refine (live03 _).mono ?_
      rintro e w6 ⟨rfl, b6⟩
      replace b6 := below_call b5 b6
      clear b5
      go_wp2
      go_ret
      exact ⟨rfl, b6⟩
  | false =>
    have H1 : Hid (less a b = false) := hab
    rcases (not_less_iff a b).mp hab with heq | hba
    · subst heq
      have hne : (a.toList == a.toList) = true := by simp
      clear hab
      go_enter Try.func7, Try.ntmps7
      go_wp2
      go_quiet (fail)
      go_wp2_with fail
      refine (Less_is _ a a _ H1).mono ?_
      rintro e w1 ⟨rfl, b1⟩
      replace b1 := below_call (b0 _ _) b1
      go_wp2_with fail
      refine (Less_is _ a a _ H1).mono ?_
      rintro e w2 ⟨rfl, b2⟩
      replace b2 := below_call b1 b2
      clear b1
      go_wp2_with fail
      refine (Less_is _ a a _ H1).mono ?_
      rintro e w3 ⟨rfl, b3⟩
      replace b3 := below_call b2 b3
      clear b2
      go_wp2_with fail
      refine (live03 _).mono ?_
      rintro e w4 ⟨rfl, b4⟩
      replace b4 := below_call b3 b4
      clear b3
      go_wp2
      go_ret
      exact ⟨rfl, b4⟩
    · have H2 : Hid (less b a = true) := hba
      have hne : (a.toList == b.toList) = false := by
        rw [beq_eq_false_iff_ne]
        intro e
        rw [toList_inj'] at e
        rw [e, less_irrefl] at hba
        cases hba
      clear hab hba
      go_enter Try.func7, Try.ntmps7
      go_wp2
      go_quiet (fail)
      go_wp2_with fail
      refine (Less_is _ a b _ H1).mono ?_
      rintro e w1 ⟨rfl, b1⟩
      replace b1 := below_call (b0 _ _) b1
      go_wp2_with fail
      refine (Less_is _ b a _ H2).mono ?_
      rintro e w2 ⟨rfl, b2⟩
      replace b2 := below_call b1 b2
      clear b1
      go_wp2_with fail
      refine (Less_is _ a b _ H1).mono ?_
      rintro e w3 ⟨rfl, b3⟩
      replace b3 := below_call b2 b3
      clear b2
      go_wp2_with fail
      refine (live03 _).mono ?_
      rintro e w4 ⟨rfl, b4⟩
      replace b4 := below_call b3 b4
      clear b3
      go_wp2
      go_ret
      exact ⟨rfl, b4⟩
end Go.Proofs.Ytobhlcogopcbdaa
