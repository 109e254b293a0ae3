/-
Layer 23: an event out of bytes, by the document's answer.
-/
import Derived.Test.YtobhlcogopcbdaaScrE
set_option linter.unusedVariables false
set_option linter.unusedSimpArgs false
namespace Go.Proofs.Ytobhlcogopcbdaa
open Go.RowKit
namespace Sp
def decR (s : ByteArray) : Ev × Int :=
  if (openS s).2 ≠ 0 then (zeroE, (openS s).2)
  else if (encE (readR (openS s).1)).2 ≠ 0 ∨ (encE (readR (openS s).1)).1.toList ≠ s.toList then (zeroE, 3)
  else (readR (openS s).1, 0)
end Sp
open Sp
theorem takeV_len (s : ByteArray) (a : Int) (m : Int) : (takeV s a m).1.size ≤ s.size := by
  unfold takeV
  simp only
  split
  · exact Nat.zero_le _
  · split
    · exact Nat.zero_le _
    · split
      · exact Nat.zero_le _
      · simp only [ByteArray.size_extract]; omega
theorem takeN_len (s : ByteArray) (a : Int) : (takeN s a).1.size ≤ s.size := by
  have := takeV_len s a 16
  simp only [takeN]
  split
  · exact Nat.zero_le _
  · split
    · exact this
    · exact Nat.zero_le _
theorem takeVal_len (s : ByteArray) (a : Int) : (takeVal s a).1.2.2.2.size ≤ s.size := by
  unfold takeVal
  simp only
  split
  · exact Nat.zero_le _
  · split
    · exact Nat.zero_le _
    · split
      · exact Nat.zero_le _
      · split
        · exact Nat.zero_le _
        · split
          · exact takeV_len _ _ _
          · exact Nat.zero_le _
theorem readR_len (s : ByteArray) : (readR s).u.size ≤ s.size ∧ (readR s).o.size ≤ s.size ∧ (readR s).v.2.2.2.size ≤ s.size := by
  unfold readR
  split
  · exact ⟨Nat.zero_le _, Nat.zero_le _, Nat.zero_le _⟩
  · split
    · exact ⟨Nat.zero_le _, Nat.zero_le _, Nat.zero_le _⟩
    · split
      · exact ⟨takeN_len _ _, takeN_len _ _, Nat.zero_le _⟩
      · split
        · exact ⟨Nat.zero_le _, Nat.zero_le _, Nat.zero_le _⟩
        · refine ⟨takeN_len _ _, Nat.zero_le _, ?_⟩
          show (if _ then _ else _ : PV).2.2.2.size ≤ _
          split
          · exact takeVal_len _ _
          · exact Nat.zero_le _
theorem openS_len (s : ByteArray) : (openS s).1.size ≤ s.size := by
  unfold openS
  split
  · exact Nat.zero_le _
  · split
    · simp only [ByteArray.size_extract]; omega
    · exact Nat.zero_le _

theorem refRead_is (t : ByteArray) (k : Int) (u o : ByteArray) (i a p n : Int) (x : ByteArray) (w : World) (ht : t.size ≤ 140737488351232) (h : Hid (readR t = ⟨k, u, o, i, a, p, n, x⟩)) :
    Calls Try.prog 60 #[.string t] w fun e w' => e = .returned (.agg #[.int .i64 k, .string u, .string o, .int .i64 i, .int .i64 a, .int .i64 p, .int .i64 n, .string x]) ∧ Below w.heap.size w w' := by
  have := refRead_calls t w ht
  rw [h.out] at this
  exact this

set_option maxHeartbeats 20000000 in
set_option maxRecDepth 100000 in
theorem refDec_w (s t : ByteArray) (er : Int) (k : Int) (u o : ByteArray) (i a p n : Int) (x : ByteArray) (q : ByteArray) (e2 : Int) (w : World) (hs : s.size ≤ 140737488351232) (ht : t.size ≤ 140737488351232) (hu : u.size ≤ 140737488351232) (ho : o.size ≤ 140737488351232) (hx : x.size ≤ 140737488351232)
    (HO : Hid (openS s = (t, er))) (HR : Hid (readR t = ⟨k, u, o, i, a, p, n, x⟩)) (HE : Hid (encE8 k u o i a p n x = (q, e2))) (r : Ev) (er2 : Int)
    (H1 : er ≠ 0 → Hid (r = zeroE ∧ er2 = er)) (H2 : er = 0 → (e2 ≠ 0 ∨ ¬ q.toList = s.toList) → Hid (r = zeroE ∧ er2 = 3)) (H3 : er = 0 → e2 = 0 → q.toList = s.toList → Hid (r = ⟨k, u, o, i, a, p, n, x⟩ ∧ er2 = 0)) :
    Calls Try.prog 32 #[.string s] w fun e w' => e = .returned (.tuple #[evV r, .int .i64 er2]) ∧ Below w.heap.size w w' := by
  by_cases he : er = 0
  · subst he
    by_cases hc : e2 = 0 ∧ q.toList = s.toList
    · obtain ⟨rfl, hq⟩ := hc
      obtain ⟨HA, HB⟩ := (H3 rfl rfl hq).out
      have HA' := Lib.hid HA
      have HB' := Lib.hid HB
      clear H1 H2 H3 HA HB
      have hqb : (q.toList == s.toList) = true := by rw [hq]; exact beq_self_eq_true _
      clear hq
      go_enter Try.func32, Try.ntmps32
      go_wp2_with fail
      refine (re_ (refOpen_calls s _ hs) (by rw [HO.out])).mono ?_
      rintro e w1 ⟨rfl, b1⟩
      have B1 := below_call (below_box _) b1
      obtain ⟨hc1, hf1⟩ := bcell b1
      have hz1 : w.heap.size < w1.heap.size := Nat.lt_of_lt_of_le (by simp) b1.size
      clear b1
      go_wp2_with fail
      refine (refRead_is t k u o i a p n x _ ht HR).mono ?_
      rintro e w2 ⟨rfl, b2⟩
      have B2 := below_call B1 b2
      obtain ⟨hc2, hf2⟩ := bcell b2
      have hz2 : w.heap.size < w2.heap.size := Nat.lt_of_lt_of_le hz1 b2.size
      clear b2
      go_wp2_with fail
      refine (re_ (refEnc_calls k u o i a p n x _ hu ho hx) (by rw [HE.out])).mono ?_
      rintro e w3 ⟨rfl, b3⟩
      have B3 := below_call (by with_reducible first | exact below_alloc0 B2 _ | exact B2) b3
      obtain ⟨hc3, hf3⟩ := bcell b3
      have hz3 : w.heap.size < w3.heap.size := Nat.lt_of_lt_of_le (by simp; omega) b3.size
      have hy3 : w2.heap.size < w3.heap.size := Nat.lt_of_lt_of_le (by simp) b3.size
      clear b3
      go_wp2
      (try simp only [Exit.inBlock, Exit.then])
      refine bodyPost_ret (v := .tuple #[evV ⟨k, u, o, i, a, p, n, x⟩, .int .i64 0]) (by simp [results, Try.results32, go_sem, evV, hc1, hc2, hc3, hz1, hz2, hz3, hy3, Nat.ne_of_lt hz2, Nat.ne_of_gt hz2, Nat.lt_succ_of_lt hz2, Nat.lt_succ_of_lt hz1]) rfl ⟨by rw [HA'.out, HB'.out], ?_⟩
      repeat (first | with_reducible exact B3 | with_reducible refine bset ?_ _ _ _ (Nat.le_refl _) | with_reducible refine below_alloc0 ?_ _)
    · obtain ⟨HA, HB⟩ := (H2 rfl (by by_cases e2 = 0 <;> simp_all)).out
      have HA' := Lib.hid HA
      have HB' := Lib.hid HB
      have hcb : (e2 != 0) = true ∨ ((e2 != 0) = false ∧ (q.toList == s.toList) = false) := by
        by_cases h : e2 = 0
        · right
          refine ⟨by simp [h], ?_⟩
          rw [beq_eq_false_iff_ne]
          exact fun e => hc ⟨h, e⟩
        · left; simpa using h
      clear H1 H2 H3 HA HB hc
      rcases hcb with hcb | ⟨hcb, hqb⟩
      all_goals
        go_enter Try.func32, Try.ntmps32
        go_wp2_with fail
        refine (re_ (refOpen_calls s _ hs) (by rw [HO.out])).mono ?_
        rintro e w1 ⟨rfl, b1⟩
        have B1 := below_call (below_box _) b1
        obtain ⟨hc1, hf1⟩ := bcell b1
        have hz1 : w.heap.size < w1.heap.size := Nat.lt_of_lt_of_le (by simp) b1.size
        clear b1
        go_wp2_with fail
        refine (refRead_is t k u o i a p n x _ ht HR).mono ?_
        rintro e w2 ⟨rfl, b2⟩
        have B2 := below_call B1 b2
        obtain ⟨hc2, hf2⟩ := bcell b2
        have hz2 : w.heap.size < w2.heap.size := Nat.lt_of_lt_of_le hz1 b2.size
        clear b2
        go_wp2_with fail
        refine (re_ (refEnc_calls k u o i a p n x _ hu ho hx) (by rw [HE.out])).mono ?_
        rintro e w3 ⟨rfl, b3⟩
        have B3 := below_call (by with_reducible first | exact below_alloc0 B2 _ | exact B2) b3
        obtain ⟨hc3, hf3⟩ := bcell b3
        have hz3 : w.heap.size < w3.heap.size := Nat.lt_of_lt_of_le (by simp; omega) b3.size
        have hy3 : w2.heap.size < w3.heap.size := Nat.lt_of_lt_of_le (by simp) b3.size
        clear b3
        go_wp2
        (try simp only [Exit.inBlock, Exit.then])
        refine bodyPost_ret (v := .tuple #[evV zeroE, .int .i64 3]) (by simp [results, Try.results32, go_sem, evV, zeroE, zeroV, hc1, hc2, hc3, hz1, hz2, hz3, hy3, Nat.ne_of_lt hz2, Nat.ne_of_gt hz2, Nat.lt_succ_of_lt hz2, Nat.lt_succ_of_lt hz1]) rfl ⟨by rw [HA'.out, HB'.out], ?_⟩
        repeat (first | with_reducible exact B3 | with_reducible refine bset ?_ _ _ _ (Nat.le_refl _) | with_reducible refine below_alloc0 ?_ _)
  · obtain ⟨HA, HB⟩ := (H1 he).out
    have HA' := Lib.hid HA
    have HB' := Lib.hid HB
    have heb : (er != 0) = true := by simpa using he
    clear H1 H2 H3 HA HB he
    go_enter Try.func32, Try.ntmps32
    go_wp2_with fail
    refine (re_ (refOpen_calls s _ hs) (by rw [HO.out])).mono ?_
    rintro e w1 ⟨rfl, b1⟩
    have B1 := below_call (below_box _) b1
    obtain ⟨hc1, hf1⟩ := bcell b1
    clear b1
    go_wp2
    (try simp only [Exit.inBlock, Exit.then])
    refine bodyPost_ret (v := .tuple #[evV zeroE, .int .i64 er]) (by simp [results, Try.results32, go_sem, evV, zeroE, zeroV, hc1]) rfl ⟨by rw [HA'.out, HB'.out], ?_⟩
    repeat (first | with_reducible exact B1 | with_reducible refine bset ?_ _ _ _ (Nat.le_refl _) | with_reducible refine below_alloc0 ?_ _)

theorem refDec_calls (s : ByteArray) (w : World) (hs : s.size ≤ 140737488351232) :
    Calls Try.prog 32 #[.string s] w fun e w' => e = .returned (.tuple #[evV (decR s).1, .int .i64 (decR s).2]) ∧ Below w.heap.size w w' := by
  obtain ⟨t, er, ho⟩ : ∃ t er, openS s = (t, er) := ⟨_, _, rfl⟩
  have htl := openS_len s
  have hrl := readR_len t
  obtain ⟨⟨k, u, o, i, a, p, n, x⟩, hr⟩ : ∃ r, readR t = r := ⟨_, rfl⟩
  obtain ⟨q, e2, he⟩ : ∃ q e, encE8 k u o i a p n x = (q, e) := ⟨_, _, rfl⟩
  rw [ho] at htl
  rw [hr] at hrl
  simp only at htl hrl
  refine refDec_w s t er k u o i a p n x q e2 w hs (by omega) (by omega) (by omega) (by omega) ho hr he (decR s).1 (decR s).2 (fun h => ?_) (fun h h2 => ?_) (fun h h2 h3 => ?_)
  all_goals (unfold Hid decR; simp only [ho, hr, encE, he])
  · rw [if_pos h]; exact ⟨rfl, rfl⟩
  · rw [if_neg (by simpa using h), if_pos h2]; exact ⟨rfl, rfl⟩
  · rw [if_neg (by simpa using h), if_neg (fun h' => h'.elim (fun h' => h' h2) (fun h' => h' h3))]; exact ⟨rfl, rfl⟩
end Go.Proofs.Ytobhlcogopcbdaa
