/-
Layer 23: two rows of events alike.
-/
import Derived.Test.YtobhlcogopcbdaaScrO
import Derived.Deep.QuietTactic
import Derived.BigQuiet
set_option linter.unusedVariables false
set_option linter.unusedSimpArgs false
namespace Go.Proofs.Ytobhlcogopcbdaa
open Go.RowKit
open Sp
set_option maxHeartbeats 8000000 in
set_option maxRecDepth 100000 in
theorem neq_ev (k : Int) (u o : ByteArray) (x a p q : Int) (t : ByteArray) (k' : Int) (u' o' : ByteArray) (x' a' p' q' : Int) (t' : ByteArray) (W : World) :
    (binOp .neq 44 (.agg #[.int .i64 k, .string u, .string o, .int .i64 x, .int .i64 a, .int .i64 p, .int .i64 q, .string t]) (.agg #[.int .i64 k', .string u', .string o', .int .i64 x', .int .i64 a', .int .i64 p', .int .i64 q', .string t'])).run Try.prog W =
      .ok (.bool (!(k == k' && (u.toList == u'.toList && (o.toList == o'.toList && (x == x' && (a == a' && (p == p' && (q == q' && t.toList == t'.toList))))))))) W := by
  cases h1 : k == k'
  · simp [go_sem, h1]
  cases h2 : u.toList == u'.toList
  · simp [go_sem, h1, h2]
  cases h3 : o.toList == o'.toList
  · simp [go_sem, h1, h2, h3]
  cases h4 : x == x'
  · simp [go_sem, h1, h2, h3, h4]
  cases h5 : a == a'
  · simp [go_sem, h1, h2, h3, h4, h5]
  cases h6 : p == p'
  · simp [go_sem, h1, h2, h3, h4, h5, h6]
  cases h7 : q == q'
  · simp [go_sem, h1, h2, h3, h4, h5, h6, h7]
  cases h8 : t.toList == t'.toList <;> simp [go_sem, h1, h2, h3, h4, h5, h6, h7, h8]
theorem ev_iff (k : Int) (u o : ByteArray) (x a p q : Int) (t : ByteArray) (k' : Int) (u' o' : ByteArray) (x' a' p' q' : Int) (t' : ByteArray) :
    (k == k' && (u.toList == u'.toList && (o.toList == o'.toList && (x == x' && (a == a' && (p == p' && (q == q' && t.toList == t'.toList))))))) = true ↔ (⟨k, u, o, x, a, p, q, t⟩ : Ev) = ⟨k', u', o', x', a', p', q', t'⟩ := by
  simp only [Bool.and_eq_true, beq_iff_eq, toList_inj', Ev.mk.injEq, Prod.mk.injEq]
set_option maxHeartbeats 8000000 in
set_option maxRecDepth 100000 in
theorem sameE_calls (n c n2 c2 : Nat) (A B : Option Addr) (l m : List Ev) (w : World) (hl : Row enE 8 w (.slice A n c) l) (hm : Row enE 8 w (.slice B n2 c2) m) :
    Calls Try.prog 36 #[.slice A n c, .slice B n2 c2] w fun e w' => ∃ b, e = .returned (.bool b) ∧ (b = true ↔ l = m) ∧ Below w.heap.size w w' := by
  have EA := Lib.hid hl.len_eq
  have EB := Lib.hid hm.len_eq
  have hnl : n ≤ 9223372036854775807 := by rw [EA.out]; exact hl.len
  by_cases hn : n = n2
  · subst hn
    go_enter Try.func36, Try.ntmps36
    go_wp2
    go_loopw [5] (fun v5 wr => ∃ i : Nat, v5 = .int .i64 i ∧ i ≤ n ∧ Below w.heap.size w wr ∧ Hid (l.take i = m.take i)) (fun v5 _ => (n - intOf v5).toNat)
    case atStart => exact ⟨0, rfl, Nat.zero_le _, Below.refl _ _, rfl⟩
    case round =>
      obtain ⟨i, rfl, hi, hB, HT⟩ := hrel
      by_cases hlt : i < n
      · have hil : i < l.length := by have := EA.out; omega
        have him : i < m.length := by have := EB.out; omega
        obtain ⟨⟨k, u, o, x, a, p, q, t⟩, he⟩ : ∃ e, l[i] = e := ⟨_, rfl⟩
        obtain ⟨⟨k', u', o', x', a', p', q', t'⟩, he'⟩ : ∃ e, m[i] = e := ⟨_, rfl⟩
        obtain ⟨ad, rfl, c0, c1, c2, c3, c4, c5, c6, c7⟩ := row_ev (hl.below hB) i hil k u o x a p q t he
        obtain ⟨bd, rfl, d0, d1, d2, d3, d4, d5, d6, d7⟩ := row_ev (hm.below hB) i him k' u' o' x' a' p' q' t' he'
        have HE := Lib.hid he
        have HE' := Lib.hid he'
        clear he he'
        have x1 : (0 : Int) ≤ (i : Int) := by omega
        have x2 : (i : Int) < (n : Int) := by omega
        obtain ⟨b, hb⟩ : ∃ b, (k == k' && (u.toList == u'.toList && (o.toList == o'.toList && (x == x' && (a == a' && (p == p' && (q == q' && t.toList == t'.toList))))))) = b := ⟨_, rfl⟩
        have hcmp := neq_ev k u o x a p q t k' u' o' x' a' p' q' t'
        rw [hb] at hcmp
        have hiff := ev_iff k u o x a p q t k' u' o' x' a' p' q' t'
        rw [hb] at hiff
        have HB := Lib.hid hiff
        clear hb hiff
        cases b with
        | true =>
          have HEQ : Hid (l[i] = m[i]) := by show _ = _; rw [HE.out, HE'.out]; exact HB.out.1 rfl
          go_wp2_with fail
          go_region
          have hB1 : Below w.heap.size w wr.drew := hB.drew
          go_wp2
          exact ⟨⟨i + 1, by go_num, by omega, hB1, by show _ = _; rw [List.take_succ_eq_append_getElem hil, List.take_succ_eq_append_getElem him, HT.out, HEQ.out]⟩, by simp [intOf]; omega⟩
        | false =>
          have HNE : Hid (¬ l = m) := by
            show ¬ _
            intro h
            subst h
            have : (⟨k, u, o, x, a, p, q, t⟩ : Ev) = ⟨k', u', o', x', a', p', q', t'⟩ := by rw [← HE.out, ← HE'.out]
            exact absurd (HB.out.2 this) (by simp)
          go_wp2_with fail
          go_region
          have hB1 : Below w.heap.size w wr.drew := hB.drew
          go_wp2
          go_ret
          exact ⟨false, rfl, ⟨(fun h => by cases h), fun h => absurd h HNE.out⟩, hB1⟩
      · have hin : i = n := by omega
        subst hin
        have HEQ : Hid (l = m) := by
          show _ = _
          have h1 : l.take i = l := List.take_of_length_le (by rw [EA.out]; exact Nat.le_refl _)
          have h2 : m.take i = m := List.take_of_length_le (by rw [EB.out]; exact Nat.le_refl _)
          rw [← h1, ← h2]; exact HT.out
        go_wp2
        go_ret
        exact ⟨true, rfl, ⟨fun _ => HEQ.out, fun _ => rfl⟩, hB⟩
  · have HNE : Hid (¬ l = m) := by
      show ¬ _
      intro h
      have h1 := EA.out
      have h2 := EB.out
      rw [h] at h1
      omega
    have hnb : ((n : Int) == (n2 : Int)) = false := by simpa using (by omega : ¬ (n : Int) = n2)
    clear hn
    go_enter Try.func36, Try.ntmps36
    go_wp2
    go_ret
    exact ⟨false, rfl, ⟨(fun h => by cases h), fun h => absurd h HNE.out⟩, Below.refl _ _⟩
end Go.Proofs.Ytobhlcogopcbdaa
