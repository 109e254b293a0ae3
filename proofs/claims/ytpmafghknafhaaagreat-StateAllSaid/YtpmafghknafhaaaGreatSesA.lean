/-
Layer 4: whether a value may be.
Plain definitions: sessions of all users (layer 9), without any Go.
Plain laws of sessions: what is put is there, all users' sessions are all of them, two are put in any order.
-/
import Derived.Test.YtpmafghknafhaaaGreatSpecD
import Derived.Test.YtpmafghknafhaaaGreatAssoc
set_option linter.unusedVariables false
set_option linter.unusedSimpArgs false
namespace Go.Proofs.YtpmafghknafhaaaGreat
open Go.RowKit
namespace Sp
def oddB (c : UInt8) : Bool := decide (c.toNat < 32) || decide (126 < c.toNat)
def oddL (l : List UInt8) : Bool := l.any oddB
def mayV (a p n : Int) (t : ByteArray) : Bool :=
  decide (1 ≤ a) && (decide (a ≤ 4) && (decide (-128 ≤ p) && (decide (p ≤ 127) && (decide (0 ≤ n) && (decide (n ≤ 1099511627776) && (decide ((t.size : Int) ≤ 32) && !oddL t.data.toList))))))
/-- The first k bytes are not odd. -/
def evenTo (s : ByteArray) (k : Nat) : Prop := ∀ j (h : j < s.size), j < k → oddB s[j] = false
theorem evenTo_succ (s : ByteArray) (k : Nat) (h : k < s.size) (o : evenTo s k) (hk : oddB s[k] = false) : evenTo s (k + 1) := by
  intro j hj hlt
  rcases Nat.lt_or_ge j k with h' | h'
  · exact o j hj h'
  · obtain rfl : j = k := by omega
    exact hk
theorem oddL_false (s : ByteArray) (k : Nat) (hk : s.size ≤ k) (o : evenTo s k) : oddL s.data.toList = false := by
  unfold oddL
  rw [List.any_eq_false]
  intro x hx
  obtain ⟨j, hj, rfl⟩ := List.getElem_of_mem hx
  have hj' : j < s.size := by rw [size_eq_length]; exact hj
  have := o j hj' (by omega)
  rw [show s.data.toList[j] = s[j] from rfl, this]
  simp
theorem oddL_true (s : ByteArray) (k : Nat) (hk : k < s.size) (o : oddB s[k] = true) : oddL s.data.toList = true := by
  unfold oddL
  rw [List.any_eq_true]
  exact ⟨s[k], List.getElem_mem (by rw [← size_eq_length]; exact hk), o⟩
end Sp
open Sp

set_option maxRecDepth 100000 in
theorem odd_calls (c : UInt8) (w : World) : Calls Tryz.prog 112 #[.int .u8 (c.toNat : Nat)] w fun e w' => e = .returned (.bool (oddB c)) ∧ w = w' := by
  obtain ⟨n, hn⟩ : ∃ n, c.toNat = n := ⟨_, rfl⟩
  have HV : Hid ((decide ((n : Int) < 32) || decide (126 < (n : Int))) = oddB c) := by
    show _ = _
    rw [oddB, hn]
    congr 1 <;> (rw [decide_eq_decide]; omega)
  rw [hn]
  clear hn
  by_cases h : (n : Int) < 32
  · go_enter Tryz.func112, Tryz.ntmps112
    go_wp2
    go_ret
    exact ⟨ret_bool (by rw [← HV.out, decide_eq_true h]; rfl), rfl⟩
  · go_enter Tryz.func112, Tryz.ntmps112
    go_wp2
    go_ret
    exact ⟨ret_bool (by rw [← HV.out, decide_eq_false (show ¬ (n : Int) < 32 by omega)]; rfl), rfl⟩

theorem odd_is (c : UInt8) (n : Nat) (b : Bool) (w : World) (hc : Hid (c.toNat = n)) (hb : Hid (oddB c = b)) : Calls Tryz.prog 112 #[.int .u8 (n : Nat)] w fun e w' => e = .returned (.bool b) ∧ w = w' := by
  rw [← hc.out, ← hb.out]
  exact odd_calls c w

set_option maxHeartbeats 1000000 in
set_option maxRecDepth 100000 in
theorem indexOdd_calls (s : ByteArray) (k c : Nat) (w : World) (hs : s.size ≤ 140737488351232) (ht : TextRow 5 w k s) :
    Calls Tryz.prog 128 #[.slice (some ⟨k, 0, none⟩) s.size c, .func (.func 112) #[] #[]] w fun e w' => ∃ r : Int, e = .returned (.int .i64 r) ∧ decide (0 ≤ r) = oddL s.data.toList ∧ w = w' := by
  go_enter Tryz.func128, Tryz.ntmps128
  go_wp2
  go_loop [8] (fun v8 => ∃ i : Nat, v8 = .int .i64 i ∧ i ≤ s.size ∧ Hid (evenTo s i)) (fun v8 => (s.size - intOf v8).toNat)
  case atStart => exact ⟨0, rfl, Nat.zero_le _, fun j _ h => absurd h (by omega)⟩
  case round =>
    obtain ⟨i, rfl, hi, HE⟩ := hrel
    by_cases hlt : i < s.size
    · obtain ⟨n, hn⟩ : ∃ n, (s[i]'hlt).toNat = n := ⟨_, rfl⟩
      have hcell : w.cell? ⟨k, i, none⟩ = some (.int .u8 n) := by rw [ht.cell i hlt, hn]
      have HN := Lib.hid hn
      clear hn
      cases hb : oddB (s[i]'hlt) with
      | true =>
        have HB := Lib.hid hb
        clear hb
        have HR : Hid (decide (0 ≤ (i : Int)) = oddL s.data.toList) := by show _ = _; rw [oddL_true s i hlt HB.out]; exact decide_eq_true (by omega)
        go_wp2_with (go_at_call 112; refine (odd_is (s[i]'hlt) n true _ HN HB).mono ?_; rintro e w1 ⟨rfl, rfl⟩)
        go_ret
        exact ⟨_, rfl, HR.out, rfl⟩
      | false =>
        have HB := Lib.hid hb
        clear hb
        have HE2 : Hid (evenTo s (i + 1)) := evenTo_succ s i hlt HE.out HB.out
        go_wp2_with (go_at_call 112; refine (odd_is (s[i]'hlt) n false _ HN HB).mono ?_; rintro e w1 ⟨rfl, rfl⟩)
        go_round
        case rel => exact ⟨i + 1, by go_num, by omega, HE2⟩
        case measure => simp [intOf]; omega
    · have HR : Hid (decide (0 ≤ (-1 : Int)) = oddL s.data.toList) := by show _ = _; rw [oddL_false s i (by omega) HE.out]; rfl
      go_wp2
      go_ret
      exact ⟨_, rfl, HR.out, rfl⟩

set_option maxHeartbeats 1000000 in
set_option maxRecDepth 100000 in
theorem containsOdd_calls (s : ByteArray) (k c : Nat) (w : World) (hs : s.size ≤ 140737488351232) (ht : TextRow 5 w k s) :
    Calls Tryz.prog 113 #[.slice (some ⟨k, 0, none⟩) s.size c, .func (.func 112) #[] #[]] w fun e w' => e = .returned (.bool (oddL s.data.toList)) ∧ w = w' := by
  go_enter Tryz.func113, Tryz.ntmps113
  go_wp2_with fail
  refine (indexOdd_calls s k c w hs ht).mono ?_
  rintro e w1 ⟨r, rfl, hr, rfl⟩
  have HR := Lib.hid hr
  clear hr
  go_wp2
  go_ret
  exact ⟨ret_bool HR.out, rfl⟩

set_option maxHeartbeats 2000000 in
set_option maxRecDepth 100000 in
theorem may_no0 (a p n : Int) (t : ByteArray) (w : World) (ht : t.size ≤ 140737488351232)  (h : a < 1) :
    Calls Tryz.prog 93 #[.agg #[.int .i64 a, .int .i64 p, .int .i64 n, .string t]] w fun e w' => e = .returned (.bool (mayV a p n t)) ∧ Below w.heap.size w w' := by
  have HV : Hid (mayV a p n t = false) := by show _ = _; unfold mayV; rw [decide_eq_false (show ¬ (1 ≤ a) by omega)]; rfl
  go_enter Tryz.func93, Tryz.ntmps93
  go_wp2
  go_ret
  rw [HV.out]
  exact ⟨rfl, (Below.refl _ _).alloc (Nat.le_refl _) _⟩

set_option maxHeartbeats 2000000 in
set_option maxRecDepth 100000 in
theorem may_no1 (a p n : Int) (t : ByteArray) (w : World) (ht : t.size ≤ 140737488351232) (h0 : 1 ≤ a) (h : 4 < a) :
    Calls Tryz.prog 93 #[.agg #[.int .i64 a, .int .i64 p, .int .i64 n, .string t]] w fun e w' => e = .returned (.bool (mayV a p n t)) ∧ Below w.heap.size w w' := by
  have HV : Hid (mayV a p n t = false) := by show _ = _; unfold mayV; rw [decide_eq_true h0, decide_eq_false (show ¬ (a ≤ 4) by omega)]; rfl
  go_enter Tryz.func93, Tryz.ntmps93
  go_wp2
  go_ret
  rw [HV.out]
  exact ⟨rfl, (Below.refl _ _).alloc (Nat.le_refl _) _⟩

set_option maxHeartbeats 2000000 in
set_option maxRecDepth 100000 in
theorem may_no2 (a p n : Int) (t : ByteArray) (w : World) (ht : t.size ≤ 140737488351232) (h0 : 1 ≤ a) (h1 : a ≤ 4) (h : p < -128) :
    Calls Tryz.prog 93 #[.agg #[.int .i64 a, .int .i64 p, .int .i64 n, .string t]] w fun e w' => e = .returned (.bool (mayV a p n t)) ∧ Below w.heap.size w w' := by
  have HV : Hid (mayV a p n t = false) := by show _ = _; unfold mayV; rw [decide_eq_true h0, decide_eq_true h1, decide_eq_false (show ¬ (-128 ≤ p) by omega)]; rfl
  go_enter Tryz.func93, Tryz.ntmps93
  go_wp2
  go_ret
  rw [HV.out]
  exact ⟨rfl, (Below.refl _ _).alloc (Nat.le_refl _) _⟩

set_option maxHeartbeats 2000000 in
set_option maxRecDepth 100000 in
theorem may_no3 (a p n : Int) (t : ByteArray) (w : World) (ht : t.size ≤ 140737488351232) (h0 : 1 ≤ a) (h1 : a ≤ 4) (h2 : -128 ≤ p) (h : 127 < p) :
    Calls Tryz.prog 93 #[.agg #[.int .i64 a, .int .i64 p, .int .i64 n, .string t]] w fun e w' => e = .returned (.bool (mayV a p n t)) ∧ Below w.heap.size w w' := by
  have HV : Hid (mayV a p n t = false) := by show _ = _; unfold mayV; rw [decide_eq_true h0, decide_eq_true h1, decide_eq_true h2, decide_eq_false (show ¬ (p ≤ 127) by omega)]; rfl
  go_enter Tryz.func93, Tryz.ntmps93
  go_wp2
  go_ret
  rw [HV.out]
  exact ⟨rfl, (Below.refl _ _).alloc (Nat.le_refl _) _⟩

set_option maxHeartbeats 2000000 in
set_option maxRecDepth 100000 in
theorem may_no4 (a p n : Int) (t : ByteArray) (w : World) (ht : t.size ≤ 140737488351232) (h0 : 1 ≤ a) (h1 : a ≤ 4) (h2 : -128 ≤ p) (h3 : p ≤ 127) (h : n < 0) :
    Calls Tryz.prog 93 #[.agg #[.int .i64 a, .int .i64 p, .int .i64 n, .string t]] w fun e w' => e = .returned (.bool (mayV a p n t)) ∧ Below w.heap.size w w' := by
  have HV : Hid (mayV a p n t = false) := by show _ = _; unfold mayV; rw [decide_eq_true h0, decide_eq_true h1, decide_eq_true h2, decide_eq_true h3, decide_eq_false (show ¬ (0 ≤ n) by omega)]; rfl
  go_enter Tryz.func93, Tryz.ntmps93
  go_wp2
  go_ret
  rw [HV.out]
  exact ⟨rfl, (Below.refl _ _).alloc (Nat.le_refl _) _⟩

set_option maxHeartbeats 2000000 in
set_option maxRecDepth 100000 in
theorem may_no5 (a p n : Int) (t : ByteArray) (w : World) (ht : t.size ≤ 140737488351232) (h0 : 1 ≤ a) (h1 : a ≤ 4) (h2 : -128 ≤ p) (h3 : p ≤ 127) (h4 : 0 ≤ n) (h : 1099511627776 < n) :
    Calls Tryz.prog 93 #[.agg #[.int .i64 a, .int .i64 p, .int .i64 n, .string t]] w fun e w' => e = .returned (.bool (mayV a p n t)) ∧ Below w.heap.size w w' := by
  have HV : Hid (mayV a p n t = false) := by show _ = _; unfold mayV; rw [decide_eq_true h0, decide_eq_true h1, decide_eq_true h2, decide_eq_true h3, decide_eq_true h4, decide_eq_false (show ¬ (n ≤ 1099511627776) by omega)]; rfl
  go_enter Tryz.func93, Tryz.ntmps93
  go_wp2
  go_ret
  rw [HV.out]
  exact ⟨rfl, (Below.refl _ _).alloc (Nat.le_refl _) _⟩

set_option maxHeartbeats 2000000 in
set_option maxRecDepth 100000 in
theorem may_no6 (a p n : Int) (t : ByteArray) (w : World) (ht : t.size ≤ 140737488351232) (h0 : 1 ≤ a) (h1 : a ≤ 4) (h2 : -128 ≤ p) (h3 : p ≤ 127) (h4 : 0 ≤ n) (h5 : n ≤ 1099511627776) (h : 32 < (t.size : Int)) :
    Calls Tryz.prog 93 #[.agg #[.int .i64 a, .int .i64 p, .int .i64 n, .string t]] w fun e w' => e = .returned (.bool (mayV a p n t)) ∧ Below w.heap.size w w' := by
  have HV : Hid (mayV a p n t = false) := by show _ = _; unfold mayV; rw [decide_eq_true h0, decide_eq_true h1, decide_eq_true h2, decide_eq_true h3, decide_eq_true h4, decide_eq_true h5, decide_eq_false (show ¬ ((t.size : Int) ≤ 32) by omega)]; rfl
  go_enter Tryz.func93, Tryz.ntmps93
  go_wp2
  go_ret
  rw [HV.out]
  exact ⟨rfl, (Below.refl _ _).alloc (Nat.le_refl _) _⟩

set_option maxHeartbeats 2000000 in
set_option maxRecDepth 100000 in
theorem may_yes (a p n : Int) (t : ByteArray) (w : World) (ht : t.size ≤ 140737488351232) (h0 : 1 ≤ a) (h1 : a ≤ 4) (h2 : -128 ≤ p) (h3 : p ≤ 127) (h4 : 0 ≤ n) (h5 : n ≤ 1099511627776) (h6 : (t.size : Int) ≤ 32) :
    Calls Tryz.prog 93 #[.agg #[.int .i64 a, .int .i64 p, .int .i64 n, .string t]] w fun e w' => e = .returned (.bool (mayV a p n t)) ∧ Below w.heap.size w w' := by
  have HV : Hid (mayV a p n t = !oddL t.data.toList) := by show _ = _; unfold mayV; rw [decide_eq_true h0, decide_eq_true h1, decide_eq_true h2, decide_eq_true h3, decide_eq_true h4, decide_eq_true h5, decide_eq_true h6]; rfl
  obtain ⟨b, hb⟩ : ∃ b, oddL t.data.toList = b := ⟨_, rfl⟩
  have HB := Lib.hid hb
  clear hb
  have kc := fun W : World => Lib.run_convert_string_bytes (P := Tryz.prog) W 9 132 5 t Tryz.underlying9 Tryz.underlying132 Tryz.underlying5
  have htr : TextRow 5 (Lib.bytesWorld (w.alloc (.cells #[.int .i64 a, .int .i64 p, .int .i64 n, .string t] 27)) 5 t) (w.heap.size + 1) t := by
    have := TextRow.new 5 (w.alloc (.cells #[.int .i64 a, .int .i64 p, .int .i64 n, .string t] 27)) t (by simp only [maxLen]; omega)
    simpa using this
  go_enter Tryz.func93, Tryz.ntmps93
  go_wp2_with fail
  refine (re_ (containsOdd_calls t (w.heap.size + 1) _ _ ht htr) (ret_bool HB.out)).mono ?_
  rintro e w1 ⟨rfl, rfl⟩
  go_wp2
  go_ret
  rw [HV.out, HB.out]
  exact ⟨rfl, below_bytes ((Below.refl _ _).alloc (Nat.le_refl _) _) (by simp) _ _⟩

theorem may_calls (a p n : Int) (t : ByteArray) (w : World) (ht : t.size ≤ 140737488351232) :
    Calls Tryz.prog 93 #[.agg #[.int .i64 a, .int .i64 p, .int .i64 n, .string t]] w fun e w' => e = .returned (.bool (mayV a p n t)) ∧ Below w.heap.size w w' := by
  by_cases h0' : a < 1
  · exact may_no0 a p n t w ht  h0'
  have h0 : 1 ≤ a := by omega
  by_cases h1' : 4 < a
  · exact may_no1 a p n t w ht h0 h1'
  have h1 : a ≤ 4 := by omega
  by_cases h2' : p < -128
  · exact may_no2 a p n t w ht h0 h1 h2'
  have h2 : -128 ≤ p := by omega
  by_cases h3' : 127 < p
  · exact may_no3 a p n t w ht h0 h1 h2 h3'
  have h3 : p ≤ 127 := by omega
  by_cases h4' : n < 0
  · exact may_no4 a p n t w ht h0 h1 h2 h3 h4'
  have h4 : 0 ≤ n := by omega
  by_cases h5' : 1099511627776 < n
  · exact may_no5 a p n t w ht h0 h1 h2 h3 h4 h5'
  have h5 : n ≤ 1099511627776 := by omega
  by_cases h6' : 32 < (t.size : Int)
  · exact may_no6 a p n t w ht h0 h1 h2 h3 h4 h5 h6'
  have h6 : (t.size : Int) ≤ 32 := by omega
  exact may_yes a p n t w ht h0 h1 h2 h3 h4 h5 h6

set_option maxHeartbeats 2000000 in
set_option maxRecDepth 100000 in
theorem refMay_no0 (a p n : Int) (t : ByteArray) (w : World) (ht : t.size ≤ 140737488351232)  (h : a < 1) :
    Calls Tryz.prog 99 #[.agg #[.int .i64 a, .int .i64 p, .int .i64 n, .string t]] w fun e w' => e = .returned (.bool (mayV a p n t)) ∧ Below w.heap.size w w' := by
  have HV : Hid (mayV a p n t = false) := by show _ = _; unfold mayV; rw [decide_eq_false (show ¬ (1 ≤ a) by omega)]; rfl
  go_enter Tryz.func99, Tryz.ntmps99
  go_wp2
  go_ret
  rw [HV.out]
  exact ⟨rfl, (Below.refl _ _).alloc (Nat.le_refl _) _⟩

set_option maxHeartbeats 2000000 in
set_option maxRecDepth 100000 in
theorem refMay_no1 (a p n : Int) (t : ByteArray) (w : World) (ht : t.size ≤ 140737488351232) (h0 : 1 ≤ a) (h : 4 < a) :
    Calls Tryz.prog 99 #[.agg #[.int .i64 a, .int .i64 p, .int .i64 n, .string t]] w fun e w' => e = .returned (.bool (mayV a p n t)) ∧ Below w.heap.size w w' := by
  have HV : Hid (mayV a p n t = false) := by show _ = _; unfold mayV; rw [decide_eq_true h0, decide_eq_false (show ¬ (a ≤ 4) by omega)]; rfl
  go_enter Tryz.func99, Tryz.ntmps99
  go_wp2
  go_ret
  rw [HV.out]
  exact ⟨rfl, (Below.refl _ _).alloc (Nat.le_refl _) _⟩

set_option maxHeartbeats 2000000 in
set_option maxRecDepth 100000 in
theorem refMay_no2 (a p n : Int) (t : ByteArray) (w : World) (ht : t.size ≤ 140737488351232) (h0 : 1 ≤ a) (h1 : a ≤ 4) (h : p < -128) :
    Calls Tryz.prog 99 #[.agg #[.int .i64 a, .int .i64 p, .int .i64 n, .string t]] w fun e w' => e = .returned (.bool (mayV a p n t)) ∧ Below w.heap.size w w' := by
  have HV : Hid (mayV a p n t = false) := by show _ = _; unfold mayV; rw [decide_eq_true h0, decide_eq_true h1, decide_eq_false (show ¬ (-128 ≤ p) by omega)]; rfl
  go_enter Tryz.func99, Tryz.ntmps99
  go_wp2
  go_ret
  rw [HV.out]
  exact ⟨rfl, (Below.refl _ _).alloc (Nat.le_refl _) _⟩

set_option maxHeartbeats 2000000 in
set_option maxRecDepth 100000 in
theorem refMay_no3 (a p n : Int) (t : ByteArray) (w : World) (ht : t.size ≤ 140737488351232) (h0 : 1 ≤ a) (h1 : a ≤ 4) (h2 : -128 ≤ p) (h : 127 < p) :
    Calls Tryz.prog 99 #[.agg #[.int .i64 a, .int .i64 p, .int .i64 n, .string t]] w fun e w' => e = .returned (.bool (mayV a p n t)) ∧ Below w.heap.size w w' := by
  have HV : Hid (mayV a p n t = false) := by show _ = _; unfold mayV; rw [decide_eq_true h0, decide_eq_true h1, decide_eq_true h2, decide_eq_false (show ¬ (p ≤ 127) by omega)]; rfl
  go_enter Tryz.func99, Tryz.ntmps99
  go_wp2
  go_ret
  rw [HV.out]
  exact ⟨rfl, (Below.refl _ _).alloc (Nat.le_refl _) _⟩

set_option maxHeartbeats 2000000 in
set_option maxRecDepth 100000 in
theorem refMay_no4 (a p n : Int) (t : ByteArray) (w : World) (ht : t.size ≤ 140737488351232) (h0 : 1 ≤ a) (h1 : a ≤ 4) (h2 : -128 ≤ p) (h3 : p ≤ 127) (h : n < 0) :
    Calls Tryz.prog 99 #[.agg #[.int .i64 a, .int .i64 p, .int .i64 n, .string t]] w fun e w' => e = .returned (.bool (mayV a p n t)) ∧ Below w.heap.size w w' := by
  have HV : Hid (mayV a p n t = false) := by show _ = _; unfold mayV; rw [decide_eq_true h0, decide_eq_true h1, decide_eq_true h2, decide_eq_true h3, decide_eq_false (show ¬ (0 ≤ n) by omega)]; rfl
  go_enter Tryz.func99, Tryz.ntmps99
  go_wp2
  go_ret
  rw [HV.out]
  exact ⟨rfl, (Below.refl _ _).alloc (Nat.le_refl _) _⟩

set_option maxHeartbeats 2000000 in
set_option maxRecDepth 100000 in
theorem refMay_no5 (a p n : Int) (t : ByteArray) (w : World) (ht : t.size ≤ 140737488351232) (h0 : 1 ≤ a) (h1 : a ≤ 4) (h2 : -128 ≤ p) (h3 : p ≤ 127) (h4 : 0 ≤ n) (h : 1099511627776 < n) :
    Calls Tryz.prog 99 #[.agg #[.int .i64 a, .int .i64 p, .int .i64 n, .string t]] w fun e w' => e = .returned (.bool (mayV a p n t)) ∧ Below w.heap.size w w' := by
  have HV : Hid (mayV a p n t = false) := by show _ = _; unfold mayV; rw [decide_eq_true h0, decide_eq_true h1, decide_eq_true h2, decide_eq_true h3, decide_eq_true h4, decide_eq_false (show ¬ (n ≤ 1099511627776) by omega)]; rfl
  go_enter Tryz.func99, Tryz.ntmps99
  go_wp2
  go_ret
  rw [HV.out]
  exact ⟨rfl, (Below.refl _ _).alloc (Nat.le_refl _) _⟩

set_option maxHeartbeats 2000000 in
set_option maxRecDepth 100000 in
theorem refMay_no6 (a p n : Int) (t : ByteArray) (w : World) (ht : t.size ≤ 140737488351232) (h0 : 1 ≤ a) (h1 : a ≤ 4) (h2 : -128 ≤ p) (h3 : p ≤ 127) (h4 : 0 ≤ n) (h5 : n ≤ 1099511627776) (h : 32 < (t.size : Int)) :
    Calls Tryz.prog 99 #[.agg #[.int .i64 a, .int .i64 p, .int .i64 n, .string t]] w fun e w' => e = .returned (.bool (mayV a p n t)) ∧ Below w.heap.size w w' := by
  have HV : Hid (mayV a p n t = false) := by show _ = _; unfold mayV; rw [decide_eq_true h0, decide_eq_true h1, decide_eq_true h2, decide_eq_true h3, decide_eq_true h4, decide_eq_true h5, decide_eq_false (show ¬ ((t.size : Int) ≤ 32) by omega)]; rfl
  go_enter Tryz.func99, Tryz.ntmps99
  go_wp2
  go_ret
  rw [HV.out]
  exact ⟨rfl, (Below.refl _ _).alloc (Nat.le_refl _) _⟩

set_option maxHeartbeats 2000000 in
set_option maxRecDepth 100000 in
theorem refMay_yes (a p n : Int) (t : ByteArray) (w : World) (ht : t.size ≤ 140737488351232) (h0 : 1 ≤ a) (h1 : a ≤ 4) (h2 : -128 ≤ p) (h3 : p ≤ 127) (h4 : 0 ≤ n) (h5 : n ≤ 1099511627776) (h6 : (t.size : Int) ≤ 32) :
    Calls Tryz.prog 99 #[.agg #[.int .i64 a, .int .i64 p, .int .i64 n, .string t]] w fun e w' => e = .returned (.bool (mayV a p n t)) ∧ Below w.heap.size w w' := by
  have HV : Hid (mayV a p n t = !oddL t.data.toList) := by show _ = _; unfold mayV; rw [decide_eq_true h0, decide_eq_true h1, decide_eq_true h2, decide_eq_true h3, decide_eq_true h4, decide_eq_true h5, decide_eq_true h6]; rfl
  go_enter Tryz.func99, Tryz.ntmps99
  go_wp2
  go_loop [3] (fun v3 => ∃ i : Nat, v3 = .int .i64 i ∧ i ≤ t.size ∧ Hid (evenTo t i)) (fun v3 => (t.size - intOf v3).toNat)
  case atStart => exact ⟨0, rfl, Nat.zero_le _, fun j _ h => absurd h (by omega)⟩
  case round =>
    obtain ⟨i, rfl, hi, HE⟩ := hrel
    by_cases hlt : i < t.size
    · obtain ⟨c, hc⟩ : ∃ c, (t[i]'hlt).toNat = c := ⟨_, rfl⟩
      have HC := Lib.hid hc
      by_cases hc1 : c < 32
      · have HR : Hid (oddL t.data.toList = true) := oddL_true t i hlt (by unfold oddB; rw [HC.out, decide_eq_true hc1]; rfl)
        go_wp2
        go_ret
        rw [HV.out, HR.out]
        exact ⟨rfl, (Below.refl _ _).alloc (Nat.le_refl _) _⟩
      · by_cases hc2 : 126 < c
        · have HR : Hid (oddL t.data.toList = true) := oddL_true t i hlt (by unfold oddB; rw [HC.out, decide_eq_true hc2, Bool.or_true])
          go_wp2
          go_ret
          rw [HV.out, HR.out]
          exact ⟨rfl, (Below.refl _ _).alloc (Nat.le_refl _) _⟩
        · have HE2 : Hid (evenTo t (i + 1)) := evenTo_succ t i hlt HE.out (by unfold oddB; rw [HC.out, decide_eq_false hc1, decide_eq_false hc2]; rfl)
          go_wp2
          go_round
          case rel => exact ⟨i + 1, by go_num, by omega, HE2⟩
          case measure => simp [intOf]; omega
    · have HR : Hid (oddL t.data.toList = false) := oddL_false t i (by omega) HE.out
      go_wp2
      go_ret
      rw [HV.out, HR.out]
      exact ⟨rfl, (Below.refl _ _).alloc (Nat.le_refl _) _⟩

theorem refMay_calls (a p n : Int) (t : ByteArray) (w : World) (ht : t.size ≤ 140737488351232) :
    Calls Tryz.prog 99 #[.agg #[.int .i64 a, .int .i64 p, .int .i64 n, .string t]] w fun e w' => e = .returned (.bool (mayV a p n t)) ∧ Below w.heap.size w w' := by
  by_cases h0' : a < 1
  · exact refMay_no0 a p n t w ht  h0'
  have h0 : 1 ≤ a := by omega
  by_cases h1' : 4 < a
  · exact refMay_no1 a p n t w ht h0 h1'
  have h1 : a ≤ 4 := by omega
  by_cases h2' : p < -128
  · exact refMay_no2 a p n t w ht h0 h1 h2'
  have h2 : -128 ≤ p := by omega
  by_cases h3' : 127 < p
  · exact refMay_no3 a p n t w ht h0 h1 h2 h3'
  have h3 : p ≤ 127 := by omega
  by_cases h4' : n < 0
  · exact refMay_no4 a p n t w ht h0 h1 h2 h3 h4'
  have h4 : 0 ≤ n := by omega
  by_cases h5' : 1099511627776 < n
  · exact refMay_no5 a p n t w ht h0 h1 h2 h3 h4 h5'
  have h5 : n ≤ 1099511627776 := by omega
  by_cases h6' : 32 < (t.size : Int)
  · exact refMay_no6 a p n t w ht h0 h1 h2 h3 h4 h5 h6'
  have h6 : (t.size : Int) ≤ 32 := by omega
  exact refMay_yes a p n t w ht h0 h1 h2 h3 h4 h5 h6
end Go.Proofs.YtpmafghknafhaaaGreat
set_option linter.unusedSectionVars false
namespace Go.Proofs.YtpmafghknafhaaaGreat
namespace Sp
structure Se where
  u : ByteArray
  i : Int
  v : Int × Int × Int × ByteArray
instance : DecidableEq Se := fun a b => decidable_of_iff (a.u = b.u ∧ a.i = b.i ∧ a.v = b.v) ⟨fun h => by cases a; cases b; simp only at h; obtain ⟨h1, h2, h3⟩ := h; subst h1 h2 h3; rfl, fun h => by subst h; exact ⟨rfl, rfl, rfl⟩⟩
abbrev SeK := ByteArray × Int
def keySe (s : Se) : SeK := (s.u, s.i)
def ltSe (a b : SeK) : Bool := less a.1 b.1 || (decide (a.1 = b.1) && decide (a.2 < b.2))
theorem ltSe_ord : SOrd ltSe where
  irr a := by simp [ltSe, less_irrefl]
  tr a b c h1 h2 := by
    simp only [ltSe, Bool.or_eq_true, Bool.and_eq_true, decide_eq_true_eq] at h1 h2 ⊢
    rcases h1 with h1 | ⟨e1, h1⟩ <;> rcases h2 with h2 | ⟨e2, h2⟩
    · exact .inl (less_trans _ _ _ h1 h2)
    · rw [e2] at h1; exact .inl h1
    · rw [← e1] at h2; exact .inl h2
    · exact .inr ⟨e1.trans e2, by omega⟩
  tri a b h := by
    simp only [ltSe, Bool.or_eq_true, Bool.and_eq_true, decide_eq_true_eq]
    by_cases e : a.1 = b.1
    · have : a.2 ≠ b.2 := fun e2 => h (Prod.ext e e2)
      rcases Int.lt_or_gt_of_ne this with h2 | h2
      · exact .inl (.inr ⟨e, h2⟩)
      · exact .inr (.inr ⟨e.symm, h2⟩)
    · rcases less_total _ _ e with h2 | h2
      · exact .inl (.inl h2)
      · exact .inr (.inl h2)
/-- May a session be? -/
def oneS (s : Se) : Bool := isName s.u && (decide (0 ≤ s.i) && (decide (s.i < 4) && mayV s.v.1 s.v.2.1 s.v.2.2.1 s.v.2.2.2))
/-- Neighbours in order, from place i on. -/
def adjS : List Se → Bool
  | a :: b :: l => ltSe (keySe a) (keySe b) && adjS (b :: l)
  | _ => true
def maySe (l : List Se) : Bool := decide (l.length ≤ 32) && (l.all oneS && adjS l)
theorem adjS_iff : ∀ l : List Se, adjS l = true ↔ ∀ i (h : i + 1 < l.length), ltSe (keySe l[i]) (keySe l[i + 1]) = true
  | [] => by simp [adjS]
  | [a] => by simp [adjS]
  | a :: b :: l => by
    rw [adjS, Bool.and_eq_true, adjS_iff (b :: l)]
    constructor
    · rintro ⟨h1, h2⟩ i hi
      cases i with
      | zero => exact h1
      | succ i => exact h2 i (by simp only [List.length_cons] at hi ⊢; omega)
    · intro h
      exact ⟨h 0 (by simp), fun i hi => h (i + 1) (by simp only [List.length_cons] at hi ⊢; omega)⟩
theorem maySe_iff (l : List Se) : maySe l = true ↔ l.length ≤ 32 ∧ (∀ s ∈ l, oneS s = true) ∧ ∀ i (h : i + 1 < l.length), ltSe (keySe l[i]) (keySe l[i + 1]) = true := by
  unfold maySe
  rw [Bool.and_eq_true, Bool.and_eq_true, decide_eq_true_eq, List.all_eq_true, adjS_iff]
theorem maySe_ord {l : List Se} (h : maySe l = true) : InOrd keySe ltSe l := ord_of_adj ltSe_ord l ((maySe_iff l).1 h).2.2
theorem maySe_of {l : List Se} (h1 : l.length ≤ 32) (h2 : ∀ s ∈ l, oneS s = true) (h3 : InOrd keySe ltSe l) : maySe l = true := (maySe_iff l).2 ⟨h1, h2, adj_of_ord h3⟩
/-- The place of a key. -/
def idxSe (l : List Se) (k : SeK) : Option Nat := l.findIdx? fun s => decide (keySe s = k)
def atSe (l : List Se) (s : Se) : Nat := (l.takeWhile fun x => ltSe (keySe x) (keySe s)).length
def putSe (l : List Se) (s : Se) : List Se × Int :=
  if (maySe l && oneS s) = false then (l, 1) else
    match idxSe l (keySe s) with
    | some i => (l.set i s, 0)
    | none => if l.length = 32 then (l, 5) else (l.take (atSe l s) ++ s :: l.drop (atSe l s), 0)
def dropSe (l : List Se) (k : SeK) : List Se × Int :=
  if maySe l = false then (l, 1) else
    match idxSe l k with
    | some i => (l.take i ++ l.drop (i + 1), 0)
    | none => (l, 6)
def ofSe (l : List Se) (u : ByteArray) : List Se := l.filter fun s => decide (s.u = u)
def usersSe (l : List Se) : List ByteArray := mergeS (l.map Se.u) []
theorem idxSe_none {l : List Se} {k : SeK} : idxSe l k = none ↔ getK keySe l k = none := by
  unfold idxSe
  rw [List.findIdx?_eq_none_iff, getK_none]
  simp
theorem idxSe_some {l : List Se} {k : SeK} {i : Nat} (h : idxSe l k = some i) : ∃ hi : i < l.length, keySe l[i] = k := by
  unfold idxSe at h
  rw [List.findIdx?_eq_some_iff_getElem] at h
  obtain ⟨hi, h1, _⟩ := h
  exact ⟨hi, of_decide_eq_true h1⟩
theorem atSe_ins (l : List Se) (s : Se) : l.take (atSe l s) ++ s :: l.drop (atSe l s) = insK keySe ltSe l s := by
  unfold insK atSe
  rw [take_tw, drop_tw]
/-- What is put, in a word. -/
theorem putSe_ok {l m : List Se} {s : Se} (h : putSe l s = (m, 0)) : maySe l = true ∧ oneS s = true ∧ m = putK keySe ltSe l s ∧ m.length ≤ 32 := by
  unfold putSe at h
  split at h
  · injection h with _ h; exact absurd h (by decide)
  · rename_i hm
    rw [Bool.not_eq_false, Bool.and_eq_true] at hm
    obtain ⟨h1, h2⟩ := hm
    have ho := maySe_ord h1
    have h32 := ((maySe_iff l).1 h1).1
    refine ⟨h1, h2, ?_⟩
    split at h
    · rename_i i hi
      obtain ⟨hlt, hk⟩ := idxSe_some hi
      injection h with h _
      rw [← h]
      exact ⟨set_putK ltSe_ord ho i hlt s hk, by rw [List.length_set]; exact h32⟩
    · rename_i hi
      split at h
      · injection h with _ h; exact absurd h (by decide)
      · rename_i hn
        injection h with h _
        have hg := idxSe_none.1 hi
        rw [← h, atSe_ins]
        unfold putK
        rw [delK_none hg]
        exact ⟨rfl, by rw [insK_len]; omega⟩
theorem putSe_room {l : List Se} {s : Se} (h1 : maySe l = true) (h2 : oneS s = true) (h : l.length < 32 ∨ getK keySe l (keySe s) ≠ none) : putSe l s = (putK keySe ltSe l s, 0) := by
  have ho := maySe_ord h1
  unfold putSe
  rw [if_neg (by rw [h1, h2]; decide)]
  split
  · rename_i i hi
    obtain ⟨hlt, hk⟩ := idxSe_some hi
    rw [set_putK ltSe_ord ho i hlt s hk]
  · rename_i hi
    have hg := idxSe_none.1 hi
    rcases h with h | h
    · rw [if_neg (by omega), atSe_ins]
      unfold putK
      rw [delK_none hg]
    · exact absurd hg h
theorem putSe_may {l m : List Se} {s : Se} (h : putSe l s = (m, 0)) : maySe m = true := by
  obtain ⟨h1, h2, h3, h4⟩ := putSe_ok h
  subst h3
  refine maySe_of h4 (fun x hx => ?_) (putK_ord ltSe_ord (maySe_ord h1) s)
  rcases putK_mem.1 hx with rfl | ⟨hx, _⟩
  · exact h2
  · exact ((maySe_iff l).1 h1).2.1 x hx
theorem putSe_err {l m : List Se} {s : Se} {e : Int} (h : putSe l s = (m, e)) (he : e ≠ 0) : m = l := by
  unfold putSe at h
  split at h
  · injection h with h _; exact h.symm
  · split at h
    · injection h with _ h; exact absurd h.symm he
    · split at h
      · injection h with h _; exact h.symm
      · injection h with _ h; exact absurd h.symm he
theorem dropSe_ok {l : List Se} {k : SeK} (h1 : maySe l = true) {x : Se} (hg : getK keySe l k = some x) : dropSe l k = (delK keySe l k, 0) := by
  have ho := maySe_ord h1
  unfold dropSe
  rw [if_neg (by rw [h1]; decide)]
  split
  · rename_i i hi
    obtain ⟨hlt, hk⟩ := idxSe_some hi
    rw [erase_delK ltSe_ord ho i hlt, hk]
  · rename_i hi
    rw [idxSe_none, hg] at hi
    cases hi
theorem delK_may {l : List Se} (h : maySe l = true) (k : SeK) : maySe (delK keySe l k) = true := by
  obtain ⟨h1, h2, _⟩ := (maySe_iff l).1 h
  refine maySe_of ?_ (fun x hx => h2 x (delK_mem.1 hx).1) (delK_ord (maySe_ord h) k)
  have := List.length_filter_le (fun x => !decide (keySe x = k)) l
  unfold delK
  omega
theorem ofSe_ord {l : List Se} (h : InOrd keySe ltSe l) (u : ByteArray) : InOrd keySe ltSe (ofSe l u) := ord_filter _ h
theorem ofSe_mem {l : List Se} {u : ByteArray} {x : Se} : x ∈ ofSe l u ↔ x ∈ l ∧ x.u = u := by
  unfold ofSe
  rw [List.mem_filter, decide_eq_true_eq]
/-- All others are as they were. -/
theorem ofSe_put {l : List Se} (h : InOrd keySe ltSe l) (s : Se) (u : ByteArray) (hu : u ≠ s.u) : ofSe (putK keySe ltSe l s) u = ofSe l u := by
  refine ord_ext ltSe_ord _ _ (ofSe_ord (putK_ord ltSe_ord h s) u) (ofSe_ord h u) fun x => ?_
  rw [ofSe_mem, ofSe_mem, putK_mem]
  constructor
  · rintro ⟨rfl | ⟨hx, _⟩, rfl⟩
    · exact absurd rfl hu
    · exact ⟨hx, rfl⟩
  · rintro ⟨hx, rfl⟩
    exact ⟨.inr ⟨hx, fun e => hu (congrArg Prod.fst e)⟩, rfl⟩
theorem ofSe_del {l : List Se} (h : InOrd keySe ltSe l) (k : SeK) (u : ByteArray) (hu : u ≠ k.1) : ofSe (delK keySe l k) u = ofSe l u := by
  refine ord_ext ltSe_ord _ _ (ofSe_ord (delK_ord h k) u) (ofSe_ord h u) fun x => ?_
  rw [ofSe_mem, ofSe_mem, delK_mem]
  constructor
  · rintro ⟨⟨hx, _⟩, rfl⟩
    exact ⟨hx, rfl⟩
  · rintro ⟨hx, rfl⟩
    exact ⟨⟨hx, fun e => hu (congrArg Prod.fst e)⟩, rfl⟩
end Sp
end Go.Proofs.YtpmafghknafhaaaGreat
set_option linter.unusedSectionVars false
namespace Go.Proofs.YtpmafghknafhaaaGreat
namespace Sp
theorem keeps_plain {l m : List Se} {s : Se} (h : maySe l = true) (hp : putSe l s = (m, 0)) : ∃ n, dropSe m (keySe s) = (n, 0) ∧ maySe m = true ∧ maySe n = true ∧ n.length + 1 = m.length ∧
    (ofSe m s.u).countP (fun x => decide (x.i = s.i)) = 1 ∧ (∀ x ∈ ofSe m s.u, x.i = s.i → x = s) ∧ (∀ x ∈ ofSe n s.u, x.i ≠ s.i) ∧ ∀ o, o ≠ s.u → ofSe m o = ofSe l o ∧ ofSe n o = ofSe l o := by
  obtain ⟨_, h2, h3, h4⟩ := putSe_ok hp
  have hm := putSe_may hp
  have ho := maySe_ord h
  have hmo := maySe_ord hm
  have hg : getK keySe m (keySe s) = some s := by rw [h3, getK_putK ltSe_ord ho, if_pos rfl]
  have hsm : s ∈ m := (getK_mem hg).1
  have huniq : ∀ x ∈ ofSe m s.u, x.i = s.i → x = s := by
    intro x hx hi
    obtain ⟨h5, h6⟩ := ofSe_mem.1 hx
    exact ord_key ltSe_ord hmo h5 hsm (Prod.ext h6 hi)
  refine ⟨_, dropSe_ok hm hg, hm, delK_may hm _, delK_len ltSe_ord hmo hsm, ?_, huniq, ?_, ?_⟩
  · rw [List.countP_eq_length_filter]
    have : (ofSe m s.u).filter (fun x => decide (x.i = s.i)) = [s] := by
      refine ord_ext ltSe_ord _ _ (ord_filter _ (ofSe_ord hmo _)) (List.pairwise_singleton _ _) fun x => ?_
      rw [List.mem_filter, decide_eq_true_eq, List.mem_singleton]
      constructor
      · rintro ⟨h5, h6⟩
        exact huniq x h5 h6
      · rintro rfl
        exact ⟨ofSe_mem.2 ⟨hsm, rfl⟩, rfl⟩
    rw [this]
    rfl
  · intro x hx hi
    obtain ⟨h5, h6⟩ := ofSe_mem.1 hx
    exact (delK_mem.1 h5).2 (Prod.ext h6 hi)
  · intro o ho'
    have e1 : ofSe m o = ofSe l o := by rw [h3]; exact ofSe_put ho s o ho'
    exact ⟨e1, by rw [ofSe_del hmo _ o ho']; exact e1⟩
theorem small_len : ∀ (l : List Se) (a b : Int), a ≤ b → (∀ x ∈ l, a ≤ x.i ∧ x.i < b) → l.Pairwise (fun x y => x.i < y.i) → (l.length : Int) ≤ b - a
  | [], _, _, h, _, _ => by simp only [List.length_nil]; omega
  | x :: l, a, b, h, h1, h2 => by
    obtain ⟨h3, h4⟩ := List.pairwise_cons.1 h2
    have h5 := h1 x List.mem_cons_self
    have := small_len l (x.i + 1) b (by omega) (fun y hy => ⟨by have := h3 y hy; omega, (h1 y (List.mem_cons_of_mem _ hy)).2⟩) h4
    rw [List.length_cons]
    omega
theorem users_mem {l : List Se} {u : ByteArray} : u ∈ usersSe l ↔ ∃ x ∈ l, x.u = u := by
  unfold usersSe
  rw [mergeS_mem]
  simp
theorem users_sorted (l : List Se) : Sorted (usersSe l) := mergeS_sorted _ _
theorem of_len {l : List Se} (h : maySe l = true) {u : ByteArray} (hu : u ∈ usersSe l) : 1 ≤ (ofSe l u).length ∧ (ofSe l u).length ≤ 4 := by
  obtain ⟨x, hx, hxu⟩ := users_mem.1 hu
  have hx' : x ∈ ofSe l u := ofSe_mem.2 ⟨hx, hxu⟩
  refine ⟨List.length_pos_of_mem hx', ?_⟩
  have := small_len (ofSe l u) 0 4 (by omega) (fun y hy => ?_) ?_
  · omega
  · have h2 := ((maySe_iff l).1 h).2.1 y (ofSe_mem.1 hy).1
    unfold oneS at h2
    simp only [Bool.and_eq_true, decide_eq_true_eq] at h2
    exact ⟨h2.2.1, h2.2.2.1⟩
  · have ho := ofSe_ord (maySe_ord h) u
    refine List.Pairwise.imp_of_mem ?_ ho
    intro a b ha hb hab
    have ha' := (ofSe_mem.1 ha).2
    have hb' := (ofSe_mem.1 hb).2
    unfold ltSe keySe at hab
    simp only [Bool.or_eq_true, Bool.and_eq_true, decide_eq_true_eq] at hab
    rcases hab with hab | ⟨_, hab⟩
    · rw [ha', hb', less_irrefl] at hab; cases hab
    · exact hab
theorem all_plain {l : List Se} (h : maySe l = true) : (usersSe l).flatMap (ofSe l) = l := by
  have ho := maySe_ord h
  refine ord_ext ltSe_ord _ _ ?_ ho fun x => ?_
  · have : ∀ us : List ByteArray, Sorted us → InOrd keySe ltSe (us.flatMap (ofSe l)) := by
      intro us
      induction us with
      | nil => intro _; exact List.Pairwise.nil
      | cons u us ih =>
        intro hs
        obtain ⟨h1, h2⟩ := List.pairwise_cons.1 hs
        rw [List.flatMap_cons]
        refine List.pairwise_append.2 ⟨ofSe_ord ho u, ih h2, fun a ha b hb => ?_⟩
        obtain ⟨u', hu', hb'⟩ := List.mem_flatMap.1 hb
        have := h1 u' hu'
        unfold ltSe keySe
        rw [Bool.or_eq_true]
        left
        simp only
        rw [(ofSe_mem.1 ha).2, (ofSe_mem.1 hb').2]
        exact this
    exact this _ (users_sorted l)
  · rw [List.mem_flatMap]
    constructor
    · rintro ⟨u, _, hx⟩
      exact (ofSe_mem.1 hx).1
    · intro hx
      exact ⟨x.u, users_mem.2 ⟨x, hx, rfl⟩, ofSe_mem.2 ⟨hx, rfl⟩⟩
theorem putK_small {l : List Se} (h : InOrd keySe ltSe l) (s : Se) : (putK keySe ltSe l s).length ≤ l.length + 1 := by
  cases hg : getK keySe l (keySe s) with
  | none => rw [putK_len_new hg]; omega
  | some y => rw [putK_len_old ltSe_ord h hg]; omega
theorem putK_may {l : List Se} (h : maySe l = true) (hl : l.length < 32) {s : Se} (hs : oneS s = true) : maySe (putK keySe ltSe l s) = true :=
  putSe_may (putSe_room h hs (.inl hl))
theorem two_plain {l : List Se} {a b : Se} (h : maySe l = true) (hl : l.length ≤ 30) (ha : oneS a = true) (hb : oneS b = true) : ∃ x y xy yx, putSe l a = (x, 0) ∧ putSe l b = (y, 0) ∧ putSe x b = (xy, 0) ∧ putSe y a = (yx, 0) ∧ putSe x a = (x, 0) ∧
    (if a.u = b.u ∧ a.i = b.i then xy = y ∧ yx = x else xy = yx) ∧ x.length ≤ 32 ∧ y.length ≤ 32 ∧ xy.length ≤ 32 ∧ yx.length ≤ 32 := by
  have ho := maySe_ord h
  have hxl := putK_small ho a
  have hyl := putK_small ho b
  have hx := putK_may h (by omega) ha
  have hy := putK_may h (by omega) hb
  have hxo := maySe_ord hx
  have hyo := maySe_ord hy
  have hxy := putK_small hxo b
  have hyx := putK_small hyo a
  refine ⟨_, _, _, _, putSe_room h ha (.inl (by omega)), putSe_room h hb (.inl (by omega)), putSe_room hx hb (.inl (by omega)), putSe_room hy ha (.inl (by omega)), ?_, ?_, by omega, by omega, by omega, by omega⟩
  · rw [putSe_room hx ha (.inl (by omega)), putK_twice ltSe_ord ho a a rfl]
  · split
    · rename_i e
      have e' : keySe a = keySe b := Prod.ext e.1 e.2
      exact ⟨putK_twice ltSe_ord ho a b e', putK_twice ltSe_ord ho b a e'.symm⟩
    · rename_i e
      exact putK_comm ltSe_ord ho a b fun e' => e ⟨congrArg Prod.fst e', congrArg Prod.snd e'⟩
end Sp
end Go.Proofs.YtpmafghknafhaaaGreat
