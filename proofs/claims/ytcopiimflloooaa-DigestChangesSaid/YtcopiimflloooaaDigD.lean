/-
Tables, and rows of changes: two of them alike, by the document.
-/
import Derived.Test.YtcopiimflloooaaSnSt
import Derived.Test.YtcopiimflloooaaChSt
import Derived.Deep.QuietTactic
import Derived.BigQuiet
set_option linter.unusedVariables false
set_option linter.unusedSimpArgs false
namespace Go.Proofs.Ytcopiimflloooaa
open Go.RowKit
open Sp
set_option maxHeartbeats 8000000 in
set_option maxRecDepth 100000 in
theorem sameSn (n c n2 c2 : Nat) (A B : Option Addr) (l m : List Sn) (w : World) (hl : Row enSn 5 w (.slice A n c) l) (hm : Row enSn 5 w (.slice B n2 c2) m) :
    Calls Try.prog 41 #[.slice A n c, .slice B n2 c2] w fun e w' => e = .returned (.bool (decide (l = m))) ∧ Below w.heap.size w w' := by
  have EA := Lib.hid hl.len_eq
  have EB := Lib.hid hm.len_eq
  have hnl : n ≤ 9223372036854775807 := by rw [EA.out]; exact hl.len
  obtain ⟨r, hr⟩ : ∃ r, decide (l = m) = r := ⟨_, rfl⟩
  rw [hr]
  have HR := Lib.hid hr
  clear hr
  by_cases hn : n = n2
  · subst hn
    go_enter Try.func41, Try.ntmps41
    go_wp2
    go_loopw [5] (fun v5 wr => ∃ i : Nat, v5 = .int .i64 i ∧ i ≤ n ∧ Below w.heap.size w wr ∧ Hid (l.take i = m.take i)) (fun v5 _ => (n - intOf v5).toNat)
    case atStart => exact ⟨0, rfl, Nat.zero_le _, Below.refl _ _, rfl⟩
    case round =>
      obtain ⟨i, rfl, hi, hB, HT⟩ := hrel
      by_cases hlt : i < n
      · have hil : i < l.length := by have := EA.out; omega
        have him : i < m.length := by have := EB.out; omega
        obtain ⟨⟨a_, b_, c_, d_, e_⟩, he⟩ : ∃ e, l[i] = e := ⟨_, rfl⟩
        obtain ⟨⟨a_', b_', c_', d_', e_'⟩, he'⟩ : ∃ e, m[i] = e := ⟨_, rfl⟩
        obtain ⟨ad, rfl, c0, c1, c2, c3, c4⟩ := rowSn (hl.below hB) i hil a_ b_ c_ d_ e_ he
        obtain ⟨bd, rfl, d0, d1, d2, d3, d4⟩ := rowSn (hm.below hB) i him a_' b_' c_' d_' e_' he'
        have HE := Lib.hid he
        have HE' := Lib.hid he'
        clear he he'
        have x1 : (0 : Int) ≤ (i : Int) := by omega
        have x2 : (i : Int) < (n : Int) := by omega
        have hcmp := neqSn a_ b_ c_ d_ e_ a_' b_' c_' d_' e_'
        rw [eqvSn] at hcmp
        obtain ⟨b, hb⟩ : ∃ b, decide ((⟨a_, b_, c_, d_, e_⟩ : Sn) = ⟨a_', b_', c_', d_', e_'⟩) = b := ⟨_, rfl⟩
        rw [hb] at hcmp
        have HB := Lib.hid hb
        clear hb
        cases b with
        | true =>
          have HEQ : Hid (l[i] = m[i]) := by show _ = _; rw [HE.out, HE'.out]; exact of_decide_eq_true HB.out
          go_wp2_with fail
          go_region
          have hB1 : Below w.heap.size w wr.drew := hB.drew
          go_wp2
          exact ⟨⟨i + 1, by go_num, by omega, hB1, by show _ = _; rw [List.take_succ_eq_append_getElem hil, List.take_succ_eq_append_getElem him, HT.out, HEQ.out]⟩, by simp [intOf]; omega⟩
        | false =>
          have HNE : Hid (r = false) := by
            show _ = _
            rw [← HR.out]
            refine decide_eq_false fun h => ?_
            subst h
            exact of_decide_eq_false HB.out (by rw [← HE.out, ← HE'.out])
          go_wp2_with fail
          go_region
          have hB1 : Below w.heap.size w wr.drew := hB.drew
          go_wp2
          go_ret
          rw [HNE.out]
          exact ⟨rfl, hB1⟩
      · have hin : i = n := by omega
        subst hin
        have HEQ : Hid (r = true) := by
          show _ = _
          rw [← HR.out]
          have h1 : l.take i = l := List.take_of_length_le (by rw [EA.out]; exact Nat.le_refl _)
          have h2 : m.take i = m := List.take_of_length_le (by rw [EB.out]; exact Nat.le_refl _)
          refine decide_eq_true ?_
          rw [← h1, ← h2]; exact HT.out
        go_wp2
        go_ret
        rw [HEQ.out]
        exact ⟨rfl, hB⟩
  · have HNE : Hid (r = false) := by
      show _ = _
      rw [← HR.out]
      refine decide_eq_false fun h => ?_
      have h1 := EA.out
      have h2 := EB.out
      rw [h] at h1
      omega
    have hnb : ((n : Int) == (n2 : Int)) = false := by simpa using (by omega : ¬ (n : Int) = n2)
    clear hn
    go_enter Try.func41, Try.ntmps41
    go_wp2
    go_ret
    rw [HNE.out]
    exact ⟨rfl, Below.refl _ _⟩
set_option maxHeartbeats 8000000 in
set_option maxRecDepth 100000 in
theorem sameCh (n c n2 c2 : Nat) (A B : Option Addr) (l m : List Ch) (w : World) (hl : Row enCh 6 w (.slice A n c) l) (hm : Row enCh 6 w (.slice B n2 c2) m) :
    Calls Try.prog 46 #[.slice A n c, .slice B n2 c2] w fun e w' => e = .returned (.bool (decide (l = m))) ∧ Below w.heap.size w w' := by
  have EA := Lib.hid hl.len_eq
  have EB := Lib.hid hm.len_eq
  have hnl : n ≤ 9223372036854775807 := by rw [EA.out]; exact hl.len
  obtain ⟨r, hr⟩ : ∃ r, decide (l = m) = r := ⟨_, rfl⟩
  rw [hr]
  have HR := Lib.hid hr
  clear hr
  by_cases hn : n = n2
  · subst hn
    go_enter Try.func46, Try.ntmps46
    go_wp2
    go_loopw [5] (fun v5 wr => ∃ i : Nat, v5 = .int .i64 i ∧ i ≤ n ∧ Below w.heap.size w wr ∧ Hid (l.take i = m.take i)) (fun v5 _ => (n - intOf v5).toNat)
    case atStart => exact ⟨0, rfl, Nat.zero_le _, Below.refl _ _, rfl⟩
    case round =>
      obtain ⟨i, rfl, hi, hB, HT⟩ := hrel
      by_cases hlt : i < n
      · have hil : i < l.length := by have := EA.out; omega
        have him : i < m.length := by have := EB.out; omega
        obtain ⟨⟨a_, b_, c_, d_, e_, f_⟩, he⟩ : ∃ e, l[i] = e := ⟨_, rfl⟩
        obtain ⟨⟨a_', b_', c_', d_', e_', f_'⟩, he'⟩ : ∃ e, m[i] = e := ⟨_, rfl⟩
        obtain ⟨ad, rfl, c0, c1, c2, c3, c4, c5⟩ := rowCh (hl.below hB) i hil a_ b_ c_ d_ e_ f_ he
        obtain ⟨bd, rfl, d0, d1, d2, d3, d4, d5⟩ := rowCh (hm.below hB) i him a_' b_' c_' d_' e_' f_' he'
        have HE := Lib.hid he
        have HE' := Lib.hid he'
        clear he he'
        have x1 : (0 : Int) ≤ (i : Int) := by omega
        have x2 : (i : Int) < (n : Int) := by omega
        have hcmp := neqCh a_ b_ c_ d_ e_ f_ a_' b_' c_' d_' e_' f_'
        rw [eqvCh] at hcmp
        obtain ⟨b, hb⟩ : ∃ b, decide ((⟨a_, b_, c_, d_, e_, f_⟩ : Ch) = ⟨a_', b_', c_', d_', e_', f_'⟩) = b := ⟨_, rfl⟩
        rw [hb] at hcmp
        have HB := Lib.hid hb
        clear hb
        cases b with
        | true =>
          have HEQ : Hid (l[i] = m[i]) := by show _ = _; rw [HE.out, HE'.out]; exact of_decide_eq_true HB.out
          go_wp2_with fail
          go_region
          have hB1 : Below w.heap.size w wr.drew := hB.drew
          go_wp2
          exact ⟨⟨i + 1, by go_num, by omega, hB1, by show _ = _; rw [List.take_succ_eq_append_getElem hil, List.take_succ_eq_append_getElem him, HT.out, HEQ.out]⟩, by simp [intOf]; omega⟩
        | false =>
          have HNE : Hid (r = false) := by
            show _ = _
            rw [← HR.out]
            refine decide_eq_false fun h => ?_
            subst h
            exact of_decide_eq_false HB.out (by rw [← HE.out, ← HE'.out])
          go_wp2_with fail
          go_region
          have hB1 : Below w.heap.size w wr.drew := hB.drew
          go_wp2
          go_ret
          rw [HNE.out]
          exact ⟨rfl, hB1⟩
      · have hin : i = n := by omega
        subst hin
        have HEQ : Hid (r = true) := by
          show _ = _
          rw [← HR.out]
          have h1 : l.take i = l := List.take_of_length_le (by rw [EA.out]; exact Nat.le_refl _)
          have h2 : m.take i = m := List.take_of_length_le (by rw [EB.out]; exact Nat.le_refl _)
          refine decide_eq_true ?_
          rw [← h1, ← h2]; exact HT.out
        go_wp2
        go_ret
        rw [HEQ.out]
        exact ⟨rfl, hB⟩
  · have HNE : Hid (r = false) := by
      show _ = _
      rw [← HR.out]
      refine decide_eq_false fun h => ?_
      have h1 := EA.out
      have h2 := EB.out
      rw [h] at h1
      omega
    have hnb : ((n : Int) == (n2 : Int)) = false := by simpa using (by omega : ¬ (n : Int) = n2)
    clear hn
    go_enter Try.func46, Try.ntmps46
    go_wp2
    go_ret
    rw [HNE.out]
    exact ⟨rfl, Below.refl _ _⟩
end Go.Proofs.Ytcopiimflloooaa
