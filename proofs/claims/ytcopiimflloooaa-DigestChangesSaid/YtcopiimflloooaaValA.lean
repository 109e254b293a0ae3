/-
Layer 4: whether a value may be.
-/
import Derived.Test.YtcopiimflloooaaVarA
set_option linter.unusedVariables false
set_option linter.unusedSimpArgs false
namespace Go.Proofs.Ytcopiimflloooaa
open Go.RowKit
namespace Sp
def oddB (c : UInt8) : Bool := decide (c.toNat < 32) || decide (126 < c.toNat)
def oddL (l : List UInt8) : Bool := l.any oddB
def mayV (a p n : Int) (t : ByteArray) : Bool :=
  decide (1 ≤ a) && (decide (a ≤ 4) && (decide (-128 ≤ p) && (decide (p ≤ 127) && (decide (0 ≤ n) && (decide (n ≤ 1099511627776) && (decide ((t.size : Int) ≤ 32) && !oddL t.data.toList))))))
/-- The first k bytes are not odd. -/
def evenTo (s : ByteArray) (k : Nat) : Prop := ∀ j (h : j < s.size), j < k → oddB s[j] = false
theorem evenTo_succ (s : ByteArray) (k : Nat) (h : k < s.size) (o : evenTo s k) (hk : oddB s[k] = false) : evenTo s (k + 1) := by
  intro j hj hlt
  rcases Nat.lt_or_ge j k with h' | h'
  · exact o j hj h'
  · obtain rfl : j = k := by omega
    exact hk
theorem oddL_false (s : ByteArray) (k : Nat) (hk : s.size ≤ k) (o : evenTo s k) : oddL s.data.toList = false := by
  unfold oddL
  rw [List.any_eq_false]
  intro x hx
  obtain ⟨j, hj, rfl⟩ := List.getElem_of_mem hx
  have hj' : j < s.size := by rw [size_eq_length]; exact hj
  have := o j hj' (by omega)
  rw [show s.data.toList[j] = s[j] from rfl, this]
  simp
theorem oddL_true (s : ByteArray) (k : Nat) (hk : k < s.size) (o : oddB s[k] = true) : oddL s.data.toList = true := by
  unfold oddL
  rw [List.any_eq_true]
  exact ⟨s[k], List.getElem_mem (by rw [← size_eq_length]; exact hk), o⟩
end Sp
open Sp

set_option maxRecDepth 100000 in
theorem odd_calls (c : UInt8) (w : World) : Calls Try.prog 99 #[.int .u8 (c.toNat : Nat)] w fun e w' => e = .returned (.bool (oddB c)) ∧ w = w' := by
  obtain ⟨n, hn⟩ : ∃ n, c.toNat = n := ⟨_, rfl⟩
  have HV : Hid ((decide ((n : Int) < 32) || decide (126 < (n : Int))) = oddB c) := by
    show _ = _
    rw [oddB, hn]
    congr 1 <;> (rw [decide_eq_decide]; omega)
  rw [hn]
  clear hn
  by_cases h : (n : Int) < 32
  · go_enter Try.func99, Try.ntmps99
    go_wp2
    go_ret
    exact ⟨ret_bool (by rw [← HV.out, decide_eq_true h]; rfl), rfl⟩
  · go_enter Try.func99, Try.ntmps99
    go_wp2
    go_ret
    exact ⟨ret_bool (by rw [← HV.out, decide_eq_false (show ¬ (n : Int) < 32 by omega)]; rfl), rfl⟩

theorem odd_is (c : UInt8) (n : Nat) (b : Bool) (w : World) (hc : Hid (c.toNat = n)) (hb : Hid (oddB c = b)) : Calls Try.prog 99 #[.int .u8 (n : Nat)] w fun e w' => e = .returned (.bool b) ∧ w = w' := by
  rw [← hc.out, ← hb.out]
  exact odd_calls c w

set_option maxHeartbeats 1000000 in
set_option maxRecDepth 100000 in
theorem indexOdd_calls (s : ByteArray) (k c : Nat) (w : World) (hs : s.size ≤ 140737488351232) (ht : TextRow 5 w k s) :
    Calls Try.prog 114 #[.slice (some ⟨k, 0, none⟩) s.size c, .func (.func 99) #[] #[]] w fun e w' => ∃ r : Int, e = .returned (.int .i64 r) ∧ decide (0 ≤ r) = oddL s.data.toList ∧ w = w' := by
  go_enter Try.func114, Try.ntmps114
  go_wp2
  go_loop [8] (fun v8 => ∃ i : Nat, v8 = .int .i64 i ∧ i ≤ s.size ∧ Hid (evenTo s i)) (fun v8 => (s.size - intOf v8).toNat)
  case atStart => exact ⟨0, rfl, Nat.zero_le _, fun j _ h => absurd h (by omega)⟩
  case round =>
    obtain ⟨i, rfl, hi, HE⟩ := hrel
    by_cases hlt : i < s.size
    · obtain ⟨n, hn⟩ : ∃ n, (s[i]'hlt).toNat = n := ⟨_, rfl⟩
      have hcell : w.cell? ⟨k, i, none⟩ = some (.int .u8 n) := by rw [ht.cell i hlt, hn]
      have HN := Lib.hid hn
      clear hn
      cases hb : oddB (s[i]'hlt) with
      | true =>
        have HB := Lib.hid hb
        clear hb
        have HR : Hid (decide (0 ≤ (i : Int)) = oddL s.data.toList) := by show _ = _; rw [oddL_true s i hlt HB.out]; exact decide_eq_true (by omega)
        go_wp2_with (go_at_call 99; refine (odd_is (s[i]'hlt) n true _ HN HB).mono ?_; rintro e w1 ⟨rfl, rfl⟩)
        go_ret
        exact ⟨_, rfl, HR.out, rfl⟩
      | false =>
        have HB := Lib.hid hb
        clear hb
        have HE2 : Hid (evenTo s (i + 1)) := evenTo_succ s i hlt HE.out HB.out
        go_wp2_with (go_at_call 99; refine (odd_is (s[i]'hlt) n false _ HN HB).mono ?_; rintro e w1 ⟨rfl, rfl⟩)
        go_round
        case rel => exact ⟨i + 1, by go_num, by omega, HE2⟩
        case measure => simp [intOf]; omega
    · have HR : Hid (decide (0 ≤ (-1 : Int)) = oddL s.data.toList) := by show _ = _; rw [oddL_false s i (by omega) HE.out]; rfl
      go_wp2
      go_ret
      exact ⟨_, rfl, HR.out, rfl⟩

set_option maxHeartbeats 1000000 in
set_option maxRecDepth 100000 in
theorem containsOdd_calls (s : ByteArray) (k c : Nat) (w : World) (hs : s.size ≤ 140737488351232) (ht : TextRow 5 w k s) :
    Calls Try.prog 100 #[.slice (some ⟨k, 0, none⟩) s.size c, .func (.func 99) #[] #[]] w fun e w' => e = .returned (.bool (oddL s.data.toList)) ∧ w = w' := by
  go_enter Try.func100, Try.ntmps100
  go_wp2_with fail
  refine (indexOdd_calls s k c w hs ht).mono ?_
  rintro e w1 ⟨r, rfl, hr, rfl⟩
  have HR := Lib.hid hr
  clear hr
  go_wp2
  go_ret
  exact ⟨ret_bool HR.out, rfl⟩

set_option maxHeartbeats 2000000 in
set_option maxRecDepth 100000 in
theorem may_no0 (a p n : Int) (t : ByteArray) (w : World) (ht : t.size ≤ 140737488351232)  (h : a < 1) :
    Calls Try.prog 72 #[.agg #[.int .i64 a, .int .i64 p, .int .i64 n, .string t]] w fun e w' => e = .returned (.bool (mayV a p n t)) ∧ Below w.heap.size w w' := by
  have HV : Hid (mayV a p n t = false) := by show _ = _; unfold mayV; rw [decide_eq_false (show ¬ (1 ≤ a) by omega)]; rfl
  go_enter Try.func72, Try.ntmps72
  go_wp2
  go_ret
  rw [HV.out]
  exact ⟨rfl, (Below.refl _ _).alloc (Nat.le_refl _) _⟩

set_option maxHeartbeats 2000000 in
set_option maxRecDepth 100000 in
theorem may_no1 (a p n : Int) (t : ByteArray) (w : World) (ht : t.size ≤ 140737488351232) (h0 : 1 ≤ a) (h : 4 < a) :
    Calls Try.prog 72 #[.agg #[.int .i64 a, .int .i64 p, .int .i64 n, .string t]] w fun e w' => e = .returned (.bool (mayV a p n t)) ∧ Below w.heap.size w w' := by
  have HV : Hid (mayV a p n t = false) := by show _ = _; unfold mayV; rw [decide_eq_true h0, decide_eq_false (show ¬ (a ≤ 4) by omega)]; rfl
  go_enter Try.func72, Try.ntmps72
  go_wp2
  go_ret
  rw [HV.out]
  exact ⟨rfl, (Below.refl _ _).alloc (Nat.le_refl _) _⟩

set_option maxHeartbeats 2000000 in
set_option maxRecDepth 100000 in
theorem may_no2 (a p n : Int) (t : ByteArray) (w : World) (ht : t.size ≤ 140737488351232) (h0 : 1 ≤ a) (h1 : a ≤ 4) (h : p < -128) :
    Calls Try.prog 72 #[.agg #[.int .i64 a, .int .i64 p, .int .i64 n, .string t]] w fun e w' => e = .returned (.bool (mayV a p n t)) ∧ Below w.heap.size w w' := by
  have HV : Hid (mayV a p n t = false) := by show _ = _; unfold mayV; rw [decide_eq_true h0, decide_eq_true h1, decide_eq_false (show ¬ (-128 ≤ p) by omega)]; rfl
  go_enter Try.func72, Try.ntmps72
  go_wp2
  go_ret
  rw [HV.out]
  exact ⟨rfl, (Below.refl _ _).alloc (Nat.le_refl _) _⟩

set_option maxHeartbeats 2000000 in
set_option maxRecDepth 100000 in
theorem may_no3 (a p n : Int) (t : ByteArray) (w : World) (ht : t.size ≤ 140737488351232) (h0 : 1 ≤ a) (h1 : a ≤ 4) (h2 : -128 ≤ p) (h : 127 < p) :
    Calls Try.prog 72 #[.agg #[.int .i64 a, .int .i64 p, .int .i64 n, .string t]] w fun e w' => e = .returned (.bool (mayV a p n t)) ∧ Below w.heap.size w w' := by
  have HV : Hid (mayV a p n t = false) := by show _ = _; unfold mayV; rw [decide_eq_true h0, decide_eq_true h1, decide_eq_true h2, decide_eq_false (show ¬ (p ≤ 127) by omega)]; rfl
  go_enter Try.func72, Try.ntmps72
  go_wp2
  go_ret
  rw [HV.out]
  exact ⟨rfl, (Below.refl _ _).alloc (Nat.le_refl _) _⟩

set_option maxHeartbeats 2000000 in
set_option maxRecDepth 100000 in
theorem may_no4 (a p n : Int) (t : ByteArray) (w : World) (ht : t.size ≤ 140737488351232) (h0 : 1 ≤ a) (h1 : a ≤ 4) (h2 : -128 ≤ p) (h3 : p ≤ 127) (h : n < 0) :
    Calls Try.prog 72 #[.agg #[.int .i64 a, .int .i64 p, .int .i64 n, .string t]] w fun e w' => e = .returned (.bool (mayV a p n t)) ∧ Below w.heap.size w w' := by
  have HV : Hid (mayV a p n t = false) := by show _ = _; unfold mayV; rw [decide_eq_true h0, decide_eq_true h1, decide_eq_true h2, decide_eq_true h3, decide_eq_false (show ¬ (0 ≤ n) by omega)]; rfl
  go_enter Try.func72, Try.ntmps72
  go_wp2
  go_ret
  rw [HV.out]
  exact ⟨rfl, (Below.refl _ _).alloc (Nat.le_refl _) _⟩

set_option maxHeartbeats 2000000 in
set_option maxRecDepth 100000 in
theorem may_no5 (a p n : Int) (t : ByteArray) (w : World) (ht : t.size ≤ 140737488351232) (h0 : 1 ≤ a) (h1 : a ≤ 4) (h2 : -128 ≤ p) (h3 : p ≤ 127) (h4 : 0 ≤ n) (h : 1099511627776 < n) :
    Calls Try.prog 72 #[.agg #[.int .i64 a, .int .i64 p, .int .i64 n, .string t]] w fun e w' => e = .returned (.bool (mayV a p n t)) ∧ Below w.heap.size w w' := by
  have HV : Hid (mayV a p n t = false) := by show _ = _; unfold mayV; rw [decide_eq_true h0, decide_eq_true h1, decide_eq_true h2, decide_eq_true h3, decide_eq_true h4, decide_eq_false (show ¬ (n ≤ 1099511627776) by omega)]; rfl
  go_enter Try.func72, Try.ntmps72
  go_wp2
  go_ret
  rw [HV.out]
  exact ⟨rfl, (Below.refl _ _).alloc (Nat.le_refl _) _⟩

set_option maxHeartbeats 2000000 in
set_option maxRecDepth 100000 in
theorem may_no6 (a p n : Int) (t : ByteArray) (w : World) (ht : t.size ≤ 140737488351232) (h0 : 1 ≤ a) (h1 : a ≤ 4) (h2 : -128 ≤ p) (h3 : p ≤ 127) (h4 : 0 ≤ n) (h5 : n ≤ 1099511627776) (h : 32 < (t.size : Int)) :
    Calls Try.prog 72 #[.agg #[.int .i64 a, .int .i64 p, .int .i64 n, .string t]] w fun e w' => e = .returned (.bool (mayV a p n t)) ∧ Below w.heap.size w w' := by
  have HV : Hid (mayV a p n t = false) := by show _ = _; unfold mayV; rw [decide_eq_true h0, decide_eq_true h1, decide_eq_true h2, decide_eq_true h3, decide_eq_true h4, decide_eq_true h5, decide_eq_false (show ¬ ((t.size : Int) ≤ 32) by omega)]; rfl
  go_enter Try.func72, Try.ntmps72
  go_wp2
  go_ret
  rw [HV.out]
  exact ⟨rfl, (Below.refl _ _).alloc (Nat.le_refl _) _⟩

set_option maxHeartbeats 2000000 in
set_option maxRecDepth 100000 in
theorem may_yes (a p n : Int) (t : ByteArray) (w : World) (ht : t.size ≤ 140737488351232) (h0 : 1 ≤ a) (h1 : a ≤ 4) (h2 : -128 ≤ p) (h3 : p ≤ 127) (h4 : 0 ≤ n) (h5 : n ≤ 1099511627776) (h6 : (t.size : Int) ≤ 32) :
    Calls Try.prog 72 #[.agg #[.int .i64 a, .int .i64 p, .int .i64 n, .string t]] w fun e w' => e = .returned (.bool (mayV a p n t)) ∧ Below w.heap.size w w' := by
  have HV : Hid (mayV a p n t = !oddL t.data.toList) := by show _ = _; unfold mayV; rw [decide_eq_true h0, decide_eq_true h1, decide_eq_true h2, decide_eq_true h3, decide_eq_true h4, decide_eq_true h5, decide_eq_true h6]; rfl
  obtain ⟨b, hb⟩ : ∃ b, oddL t.data.toList = b := ⟨_, rfl⟩
  have HB := Lib.hid hb
  clear hb
  have kc := fun W : World => Lib.run_convert_string_bytes (P := Try.prog) W 9 85 5 t Try.underlying9 Try.underlying85 Try.underlying5
  have htr : TextRow 5 (Lib.bytesWorld (w.alloc (.cells #[.int .i64 a, .int .i64 p, .int .i64 n, .string t] 32)) 5 t) (w.heap.size + 1) t := by
    have := TextRow.new 5 (w.alloc (.cells #[.int .i64 a, .int .i64 p, .int .i64 n, .string t] 32)) t (by simp only [maxLen]; omega)
    simpa using this
  go_enter Try.func72, Try.ntmps72
  go_wp2_with fail
  refine (re_ (containsOdd_calls t (w.heap.size + 1) _ _ ht htr) (ret_bool HB.out)).mono ?_
  rintro e w1 ⟨rfl, rfl⟩
  go_wp2
  go_ret
  rw [HV.out, HB.out]
  exact ⟨rfl, below_bytes ((Below.refl _ _).alloc (Nat.le_refl _) _) (by simp) _ _⟩

theorem may_calls (a p n : Int) (t : ByteArray) (w : World) (ht : t.size ≤ 140737488351232) :
    Calls Try.prog 72 #[.agg #[.int .i64 a, .int .i64 p, .int .i64 n, .string t]] w fun e w' => e = .returned (.bool (mayV a p n t)) ∧ Below w.heap.size w w' := by
  by_cases h0' : a < 1
  · exact may_no0 a p n t w ht  h0'
  have h0 : 1 ≤ a := by omega
  by_cases h1' : 4 < a
  · exact may_no1 a p n t w ht h0 h1'
  have h1 : a ≤ 4 := by omega
  by_cases h2' : p < -128
  · exact may_no2 a p n t w ht h0 h1 h2'
  have h2 : -128 ≤ p := by omega
  by_cases h3' : 127 < p
  · exact may_no3 a p n t w ht h0 h1 h2 h3'
  have h3 : p ≤ 127 := by omega
  by_cases h4' : n < 0
  · exact may_no4 a p n t w ht h0 h1 h2 h3 h4'
  have h4 : 0 ≤ n := by omega
  by_cases h5' : 1099511627776 < n
  · exact may_no5 a p n t w ht h0 h1 h2 h3 h4 h5'
  have h5 : n ≤ 1099511627776 := by omega
  by_cases h6' : 32 < (t.size : Int)
  · exact may_no6 a p n t w ht h0 h1 h2 h3 h4 h5 h6'
  have h6 : (t.size : Int) ≤ 32 := by omega
  exact may_yes a p n t w ht h0 h1 h2 h3 h4 h5 h6

set_option maxHeartbeats 2000000 in
set_option maxRecDepth 100000 in
theorem refMay_no0 (a p n : Int) (t : ByteArray) (w : World) (ht : t.size ≤ 140737488351232)  (h : a < 1) :
    Calls Try.prog 62 #[.agg #[.int .i64 a, .int .i64 p, .int .i64 n, .string t]] w fun e w' => e = .returned (.bool (mayV a p n t)) ∧ Below w.heap.size w w' := by
  have HV : Hid (mayV a p n t = false) := by show _ = _; unfold mayV; rw [decide_eq_false (show ¬ (1 ≤ a) by omega)]; rfl
  go_enter Try.func62, Try.ntmps62
  go_wp2
  go_ret
  rw [HV.out]
  exact ⟨rfl, (Below.refl _ _).alloc (Nat.le_refl _) _⟩

set_option maxHeartbeats 2000000 in
set_option maxRecDepth 100000 in
theorem refMay_no1 (a p n : Int) (t : ByteArray) (w : World) (ht : t.size ≤ 140737488351232) (h0 : 1 ≤ a) (h : 4 < a) :
    Calls Try.prog 62 #[.agg #[.int .i64 a, .int .i64 p, .int .i64 n, .string t]] w fun e w' => e = .returned (.bool (mayV a p n t)) ∧ Below w.heap.size w w' := by
  have HV : Hid (mayV a p n t = false) := by show _ = _; unfold mayV; rw [decide_eq_true h0, decide_eq_false (show ¬ (a ≤ 4) by omega)]; rfl
  go_enter Try.func62, Try.ntmps62
  go_wp2
  go_ret
  rw [HV.out]
  exact ⟨rfl, (Below.refl _ _).alloc (Nat.le_refl _) _⟩

set_option maxHeartbeats 2000000 in
set_option maxRecDepth 100000 in
theorem refMay_no2 (a p n : Int) (t : ByteArray) (w : World) (ht : t.size ≤ 140737488351232) (h0 : 1 ≤ a) (h1 : a ≤ 4) (h : p < -128) :
    Calls Try.prog 62 #[.agg #[.int .i64 a, .int .i64 p, .int .i64 n, .string t]] w fun e w' => e = .returned (.bool (mayV a p n t)) ∧ Below w.heap.size w w' := by
  have HV : Hid (mayV a p n t = false) := by show _ = _; unfold mayV; rw [decide_eq_true h0, decide_eq_true h1, decide_eq_false (show ¬ (-128 ≤ p) by omega)]; rfl
  go_enter Try.func62, Try.ntmps62
  go_wp2
  go_ret
  rw [HV.out]
  exact ⟨rfl, (Below.refl _ _).alloc (Nat.le_refl _) _⟩

set_option maxHeartbeats 2000000 in
set_option maxRecDepth 100000 in
theorem refMay_no3 (a p n : Int) (t : ByteArray) (w : World) (ht : t.size ≤ 140737488351232) (h0 : 1 ≤ a) (h1 : a ≤ 4) (h2 : -128 ≤ p) (h : 127 < p) :
    Calls Try.prog 62 #[.agg #[.int .i64 a, .int .i64 p, .int .i64 n, .string t]] w fun e w' => e = .returned (.bool (mayV a p n t)) ∧ Below w.heap.size w w' := by
  have HV : Hid (mayV a p n t = false) := by show _ = _; unfold mayV; rw [decide_eq_true h0, decide_eq_true h1, decide_eq_true h2, decide_eq_false (show ¬ (p ≤ 127) by omega)]; rfl
  go_enter Try.func62, Try.ntmps62
  go_wp2
  go_ret
  rw [HV.out]
  exact ⟨rfl, (Below.refl _ _).alloc (Nat.le_refl _) _⟩

set_option maxHeartbeats 2000000 in
set_option maxRecDepth 100000 in
theorem refMay_no4 (a p n : Int) (t : ByteArray) (w : World) (ht : t.size ≤ 140737488351232) (h0 : 1 ≤ a) (h1 : a ≤ 4) (h2 : -128 ≤ p) (h3 : p ≤ 127) (h : n < 0) :
    Calls Try.prog 62 #[.agg #[.int .i64 a, .int .i64 p, .int .i64 n, .string t]] w fun e w' => e = .returned (.bool (mayV a p n t)) ∧ Below w.heap.size w w' := by
  have HV : Hid (mayV a p n t = false) := by show _ = _; unfold mayV; rw [decide_eq_true h0, decide_eq_true h1, decide_eq_true h2, decide_eq_true h3, decide_eq_false (show ¬ (0 ≤ n) by omega)]; rfl
  go_enter Try.func62, Try.ntmps62
  go_wp2
  go_ret
  rw [HV.out]
  exact ⟨rfl, (Below.refl _ _).alloc (Nat.le_refl _) _⟩

set_option maxHeartbeats 2000000 in
set_option maxRecDepth 100000 in
theorem refMay_no5 (a p n : Int) (t : ByteArray) (w : World) (ht : t.size ≤ 140737488351232) (h0 : 1 ≤ a) (h1 : a ≤ 4) (h2 : -128 ≤ p) (h3 : p ≤ 127) (h4 : 0 ≤ n) (h : 1099511627776 < n) :
    Calls Try.prog 62 #[.agg #[.int .i64 a, .int .i64 p, .int .i64 n, .string t]] w fun e w' => e = .returned (.bool (mayV a p n t)) ∧ Below w.heap.size w w' := by
  have HV : Hid (mayV a p n t = false) := by show _ = _; unfold mayV; rw [decide_eq_true h0, decide_eq_true h1, decide_eq_true h2, decide_eq_true h3, decide_eq_true h4, decide_eq_false (show ¬ (n ≤ 1099511627776) by omega)]; rfl
  go_enter Try.func62, Try.ntmps62
  go_wp2
  go_ret
  rw [HV.out]
  exact ⟨rfl, (Below.refl _ _).alloc (Nat.le_refl _) _⟩

set_option maxHeartbeats 2000000 in
set_option maxRecDepth 100000 in
theorem refMay_no6 (a p n : Int) (t : ByteArray) (w : World) (ht : t.size ≤ 140737488351232) (h0 : 1 ≤ a) (h1 : a ≤ 4) (h2 : -128 ≤ p) (h3 : p ≤ 127) (h4 : 0 ≤ n) (h5 : n ≤ 1099511627776) (h : 32 < (t.size : Int)) :
    Calls Try.prog 62 #[.agg #[.int .i64 a, .int .i64 p, .int .i64 n, .string t]] w fun e w' => e = .returned (.bool (mayV a p n t)) ∧ Below w.heap.size w w' := by
  have HV : Hid (mayV a p n t = false) := by show _ = _; unfold mayV; rw [decide_eq_true h0, decide_eq_true h1, decide_eq_true h2, decide_eq_true h3, decide_eq_true h4, decide_eq_true h5, decide_eq_false (show ¬ ((t.size : Int) ≤ 32) by omega)]; rfl
  go_enter Try.func62, Try.ntmps62
  go_wp2
  go_ret
  rw [HV.out]
  exact ⟨rfl, (Below.refl _ _).alloc (Nat.le_refl _) _⟩

set_option maxHeartbeats 2000000 in
set_option maxRecDepth 100000 in
theorem refMay_yes (a p n : Int) (t : ByteArray) (w : World) (ht : t.size ≤ 140737488351232) (h0 : 1 ≤ a) (h1 : a ≤ 4) (h2 : -128 ≤ p) (h3 : p ≤ 127) (h4 : 0 ≤ n) (h5 : n ≤ 1099511627776) (h6 : (t.size : Int) ≤ 32) :
    Calls Try.prog 62 #[.agg #[.int .i64 a, .int .i64 p, .int .i64 n, .string t]] w fun e w' => e = .returned (.bool (mayV a p n t)) ∧ Below w.heap.size w w' := by
  have HV : Hid (mayV a p n t = !oddL t.data.toList) := by show _ = _; unfold mayV; rw [decide_eq_true h0, decide_eq_true h1, decide_eq_true h2, decide_eq_true h3, decide_eq_true h4, decide_eq_true h5, decide_eq_true h6]; rfl
  go_enter Try.func62, Try.ntmps62
  go_wp2
  go_loop [3] (fun v3 => ∃ i : Nat, v3 = .int .i64 i ∧ i ≤ t.size ∧ Hid (evenTo t i)) (fun v3 => (t.size - intOf v3).toNat)
  case atStart => exact ⟨0, rfl, Nat.zero_le _, fun j _ h => absurd h (by omega)⟩
  case round =>
    obtain ⟨i, rfl, hi, HE⟩ := hrel
    by_cases hlt : i < t.size
    · obtain ⟨c, hc⟩ : ∃ c, (t[i]'hlt).toNat = c := ⟨_, rfl⟩
      have HC := Lib.hid hc
      by_cases hc1 : c < 32
      · have HR : Hid (oddL t.data.toList = true) := oddL_true t i hlt (by unfold oddB; rw [HC.out, decide_eq_true hc1]; rfl)
        go_wp2
        go_ret
        rw [HV.out, HR.out]
        exact ⟨rfl, (Below.refl _ _).alloc (Nat.le_refl _) _⟩
      · by_cases hc2 : 126 < c
        · have HR : Hid (oddL t.data.toList = true) := oddL_true t i hlt (by unfold oddB; rw [HC.out, decide_eq_true hc2, Bool.or_true])
          go_wp2
          go_ret
          rw [HV.out, HR.out]
          exact ⟨rfl, (Below.refl _ _).alloc (Nat.le_refl _) _⟩
        · have HE2 : Hid (evenTo t (i + 1)) := evenTo_succ t i hlt HE.out (by unfold oddB; rw [HC.out, decide_eq_false hc1, decide_eq_false hc2]; rfl)
          go_wp2
          go_round
          case rel => exact ⟨i + 1, by go_num, by omega, HE2⟩
          case measure => simp [intOf]; omega
    · have HR : Hid (oddL t.data.toList = false) := oddL_false t i (by omega) HE.out
      go_wp2
      go_ret
      rw [HV.out, HR.out]
      exact ⟨rfl, (Below.refl _ _).alloc (Nat.le_refl _) _⟩

theorem refMay_calls (a p n : Int) (t : ByteArray) (w : World) (ht : t.size ≤ 140737488351232) :
    Calls Try.prog 62 #[.agg #[.int .i64 a, .int .i64 p, .int .i64 n, .string t]] w fun e w' => e = .returned (.bool (mayV a p n t)) ∧ Below w.heap.size w w' := by
  by_cases h0' : a < 1
  · exact refMay_no0 a p n t w ht  h0'
  have h0 : 1 ≤ a := by omega
  by_cases h1' : 4 < a
  · exact refMay_no1 a p n t w ht h0 h1'
  have h1 : a ≤ 4 := by omega
  by_cases h2' : p < -128
  · exact refMay_no2 a p n t w ht h0 h1 h2'
  have h2 : -128 ≤ p := by omega
  by_cases h3' : 127 < p
  · exact refMay_no3 a p n t w ht h0 h1 h2 h3'
  have h3 : p ≤ 127 := by omega
  by_cases h4' : n < 0
  · exact refMay_no4 a p n t w ht h0 h1 h2 h3 h4'
  have h4 : 0 ≤ n := by omega
  by_cases h5' : 1099511627776 < n
  · exact refMay_no5 a p n t w ht h0 h1 h2 h3 h4 h5'
  have h5 : n ≤ 1099511627776 := by omega
  by_cases h6' : 32 < (t.size : Int)
  · exact refMay_no6 a p n t w ht h0 h1 h2 h3 h4 h5 h6'
  have h6 : (t.size : Int) ≤ 32 := by omega
  exact refMay_yes a p n t w ht h0 h1 h2 h3 h4 h5 h6
end Go.Proofs.Ytcopiimflloooaa
