/-
Layer 23: the walk of ScriptBatches.
-/
import Derived.Test.YtobhlcogopcbdaaScrV
set_option linter.unusedVariables false
set_option linter.unusedSimpArgs false
namespace Go.Proofs.Ytobhlcogopcbdaa
open Go.RowKit
open Sp
theorem eventsE_sz (l : List Ev) (m : Int) (h : eventsE l m = true) : SzE l := by
  intro e he
  unfold eventsE at h
  rw [Bool.and_eq_true, List.all_eq_true] at h
  have := h.2 e he
  unfold shortE at this
  simp only [Bool.and_eq_true, decide_eq_true_eq] at this
  omega
theorem events_is (n c : Nat) (A : Option Addr) (l : List Ev) (most : Int) (b : Bool) (w : World) (hl : Row enE 8 w (.slice A n c) l) (hz : ∀ e ∈ l, e.u.size ≤ 9223372036854775807 ∧ e.o.size ≤ 9223372036854775807 ∧ e.v.2.2.2.size ≤ 9223372036854775807) (h : Hid (eventsE l most = b)) :
    Calls Try.prog 37 #[.slice A n c, .int .i64 most] w fun e w' => e = .returned (.bool b) ∧ Below w.heap.size w w' := by
  have := events_calls n c A l most w hl hz
  rwa [h.out] at this
theorem batch_is (n c : Nat) (A : Option Addr) (l : List Ev) (t : ByteArray) (er : Int) (w : World) (hl : Row enE 8 w (.slice A n c) l) (hz : SzE l) (h : Hid (batchE l = (t, er))) :
    Calls Try.prog 38 #[.slice A n c] w fun e w' => e = .returned (.tuple #[.string t, .int .i64 er]) ∧ Below w.heap.size w w' := by
  have := batch_calls n c A l w hl hz
  rwa [h.out] at this
theorem refBatch_is (n c : Nat) (A : Option Addr) (l : List Ev) (t : ByteArray) (er : Int) (w : World) (hl : Row enE 8 w (.slice A n c) l) (hz : SzE l) (h : Hid (batchE l = (t, er))) :
    Calls Try.prog 39 #[.slice A n c] w fun e w' => e = .returned (.tuple #[.string t, .int .i64 er]) ∧ Below w.heap.size w w' := by
  have := refBatch_calls n c A l w hl hz
  rwa [h.out] at this
set_option maxHeartbeats 4000000 in
set_option maxRecDepth 100000 in
theorem batches_walk (n c : Nat) (A : Option Addr) (l : List Ev) (w : World) (hl : Row enE 8 w (.slice A n c) l) (hz : ∀ e ∈ l, e.u.size ≤ 9223372036854775807 ∧ e.o.size ≤ 9223372036854775807 ∧ e.v.2.2.2.size ≤ 9223372036854775807) :
    Calls Try.prog 11 #[.slice A n c] w fun e w' => e = .returned (.bool true) ∧ Below w.heap.size w w' := by
  cases h : eventsE l 110 with
  | false =>
    have H := Lib.hid h
    clear h
    go_enter Try.func11, Try.ntmps11
    go_wp2_with fail
    refine (events_is n c A l 110 false _ hl hz H).mono ?_
    rintro e w1 ⟨rfl, b1⟩
    go_wp2_with fail
    refine (live23 _).mono ?_
    rintro e w2 ⟨rfl, b2⟩
    have B2 := below_call b1 b2
    clear b1 b2
    go_wp2
    go_ret
    exact ⟨rfl, B2⟩
  | true =>
    have hs := eventsE_sz l 110 h
    have H := Lib.hid h
    obtain ⟨t, er, hb⟩ : ∃ t er, batchE l = (t, er) := ⟨_, _, rfl⟩
    have HB := Lib.hid hb
    clear h hb
    go_enter Try.func11, Try.ntmps11
    go_wp2_with fail
    refine (events_is n c A l 110 true _ hl hz H).mono ?_
    rintro e w1 ⟨rfl, b1⟩
    go_wp2_with fail
    refine (batch_is n c A l t er _ (hl.below b1) hs HB).mono ?_
    rintro e w2 ⟨rfl, b2⟩
    have B2 := below_call b1 b2
    clear b1 b2
    go_wp2_with fail
    refine (refBatch_is n c A l t er _ (hl.below B2) hs HB).mono ?_
    rintro e w3 ⟨rfl, b3⟩
    have B3 := below_call B2 b3
    clear B2 b3
    go_wp2_with fail
    refine (live23 _).mono ?_
    rintro e w4 ⟨rfl, b4⟩
    have B4 := below_call B3 b4
    clear B3 b4
    go_wp2
    go_ret
    exact ⟨rfl, B4⟩
end Go.Proofs.Ytobhlcogopcbdaa
