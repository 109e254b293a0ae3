/-
Layer 23: an event read, and decoded, by the program.
-/
import Derived.Test.YtobhlcogopcbdaaScrK
import Derived.Test.YtobhlcogopcbdaaScrL
import Derived.Test.YtobhlcogopcbdaaScrM
import Derived.Test.YtobhlcogopcbdaaScrN0
set_option linter.unusedVariables false
set_option linter.unusedSimpArgs false
namespace Go.Proofs.Ytobhlcogopcbdaa
open Go.RowKit
open Sp
theorem beq_no {a b : Int} (h : ¬ a = b) : (a == b) = false := by simpa using h
theorem beq_yes {a b : Int} (h : a = b) : (a == b) = true := by simpa using h
theorem rd_if {s : ByteArray} {w : World} {c : Prop} [Decidable c] {x : Ev} (ev : Ev) (b : Bool) (hb : c ↔ b = true) (h : Calls Try.prog 58 #[.string s] w (RdPost ev b w)) (hx : x = ev) :
    Calls Try.prog 58 #[.string s] w (RdPost (if c then (x, true) else (zeroE, false)).1 (if c then (x, true) else (zeroE, false)).2 w) := by
  subst hx
  by_cases hc : c
  · have := hb.1 hc
    subst this
    simp only [if_pos hc]; exact h
  · have : b = false := by cases b with | false => rfl | true => exact absurd (hb.2 rfl) hc
    subst this
    simp only [if_neg hc]
    exact h.mono fun e w' ⟨r, h1, h2, h3⟩ => ⟨r, h1, (fun h => by cases h), h3⟩
theorem rd_no {s : ByteArray} {w : World} {p : Ev × Bool} (hp : p = (zeroE, false)) (h : Calls Try.prog 58 #[.string s] w (RdPost zeroE false w)) : Calls Try.prog 58 #[.string s] w (RdPost p.1 p.2 w) := by rw [hp]; exact h

theorem read_calls (s : ByteArray) (w : World) (hs : s.size ≤ 140737488351232) : Calls Try.prog 58 #[.string s] w (RdPost (readP s).1 (readP s).2 w) := by
  by_cases h : s.size = 0
  · exact rd_no (by unfold readP; rw [if_pos h]) (read_A s w hs h zeroE)
  have h0 : 0 < s.size := by omega
  have hul := takeN_len s 1
  obtain ⟨u, a1, er, hu⟩ : ∃ u a e, takeN s 1 = (u, a, e) := ⟨_, _, _, rfl⟩
  rw [hu] at hul
  simp only at hul
  obtain ⟨k, hk⟩ : ∃ k, (s[0]'h0).toNat = k := ⟨_, rfl⟩
  have hb0 : byteAt s 0 = k := by rw [byteAt_is s 0 h0, hk]
  have hkl : k < 256 := by rw [← hk]; exact UInt8.toNat_lt _
  by_cases he : er = 0
  · subst he
    obtain ⟨_, e2, e3, hun, _⟩ := takeN_ok s 1 u a1 hu
    obtain ⟨m, rfl⟩ := Int.eq_ofNat_of_zero_le (show 0 ≤ a1 by omega)
    have hm : m ≤ s.size := by omega
    unfold readP
    rw [if_neg h]
    simp only [hu, hb0, Int.toNat_natCast]
    rw [if_neg (by simp)]
    by_cases hlo : 1 ≤ (k : Int) ∧ (k : Int) ≤ 6
    · rw [if_pos hlo]
      have hol := takeN_len s m
      obtain ⟨o, a2, er2, ho⟩ : ∃ u a e, takeN s m = (u, a, e) := ⟨_, _, _, rfl⟩
      rw [ho] at hol
      simp only [ho] at hol ⊢
      by_cases h2 : er2 = 0
      · subst h2
        by_cases ha : a2 = s.size
        · subst ha
          refine rd_if ⟨k, u, o, 0, zeroV⟩ (mayE8 k u o 0 0 0 0 ⟨#[]⟩) (by simp) ?_ rfl
          exact read_lo_yes s w hs h0 k hk hlo.1 hlo.2 u m (by omega) hm hu o (by omega) ho _ rfl
        · exact rd_no (by rw [if_neg (by intro h; exact ha h.2.1)]) (read_lo_ne s w hs h0 k hk hlo.1 hlo.2 u m (by omega) hm hu o a2 (by omega) ho (beq_no ha) _)
      · exact rd_no (by rw [if_neg (by intro h; exact h2 h.1)]) (read_lo_no2 s w hs h0 k hk hlo.1 hlo.2 u m (by omega) hm hu o a2 er2 (by omega) ho (beq_no h2) _)
    · rw [if_neg hlo]
      by_cases h7 : (k : Int) = 7
      · obtain rfl : k = 7 := by omega
        by_cases hge : s.size ≤ m
        · exact rd_no (by rw [if_pos (by omega)]) (read_7_ino s w hs h0 hk u m (by omega) hm hu hge _)
        · have hlt : m < s.size := by omega
          rw [if_neg (by omega), if_pos h7, byteAt_is s m hlt]
          have hvl := takeVal_len s ((m : Int) + 1)
          obtain ⟨⟨va, vp, vn, vt⟩, a3, er3, hv⟩ : ∃ u a e, takeVal s ((m : Int) + 1) = (u, a, e) := ⟨_, _, _, rfl⟩
          rw [hv] at hvl
          simp only [hv] at hvl ⊢
          by_cases h2 : er3 = 0
          · subst h2
            by_cases ha : a3 = s.size
            · subst ha
              refine rd_if ⟨7, u, ⟨#[]⟩, s[m].toNat, va, vp, vn, vt⟩ (mayE8 7 u ⟨#[]⟩ s[m].toNat va vp vn vt) (by simp [mayE]) ?_ rfl
              exact read_7_yes s w hs h0 hk u m (by omega) hm hu hlt _ rfl va vp vn vt (by omega) hv _ rfl
            · exact rd_no (by rw [if_neg (by intro h; exact ha h.2.1)]) (read_7_ne s w hs h0 hk u m (by omega) hm hu hlt _ rfl va vp vn vt a3 (by omega) hv (beq_no ha) _)
          · exact rd_no (by rw [if_neg (by intro h; exact h2 h.1)]) (read_7_vno s w hs h0 hk u m (by omega) hm hu hlt _ rfl va vp vn vt a3 er3 (by omega) hv (beq_no h2) _)
      · by_cases h8 : (k : Int) = 8
        · obtain rfl : k = 8 := by omega
          by_cases hge : s.size ≤ m
          · exact rd_no (by rw [if_pos (by omega)]) (read_8_ino s w hs h0 hk u m (by omega) hm hu hge _)
          · have hlt : m < s.size := by omega
            rw [if_neg (by omega), if_neg (by omega), if_pos h8, byteAt_is s m hlt]
            by_cases ha : (m : Int) + 1 = s.size
            · refine rd_if ⟨8, u, ⟨#[]⟩, s[m].toNat, zeroV⟩ (mayE8 8 u ⟨#[]⟩ s[m].toNat 0 0 0 ⟨#[]⟩) (by simp [ha]) ?_ rfl
              exact read_8_yes s w hs h0 hk u m (by omega) hm hu hlt _ rfl (beq_yes ha) _ rfl
            · exact rd_no (by rw [if_neg (by intro h; exact ha h.1)]) (read_8_ne s w hs h0 hk u m (by omega) hm hu hlt _ rfl (beq_no ha) _)
        · have hno : k = 0 ∨ 8 < k := by omega
          have hf : mayE8 k u ⟨#[]⟩ 0 0 0 0 ⟨#[]⟩ = false := by unfold mayE8; rw [if_pos (by omega)]
          refine rd_no (by rw [if_neg h7, if_neg h8]; split <;> rfl) ?_
          by_cases ha : (m : Int) = s.size
          · exact read_0_yes s w hs h0 k hk hno u m (by omega) hm hu (beq_yes ha) _ hf
          · exact read_0_ne s w hs h0 k hk hno u m (by omega) hm hu (beq_no ha) _
  · refine rd_no (by unfold readP; rw [if_neg h]; simp only [hu]; rw [if_pos he]) ?_
    by_cases hlo : 1 ≤ (k : Int) ∧ (k : Int) ≤ 6
    · exact read_no_lo s w hs h0 k hk hlo.1 hlo.2 u a1 er (beq_no he) (by omega) hu _
    · by_cases h7 : (k : Int) = 7
      · obtain rfl : k = 7 := by omega
        exact read_no_7 s w hs h0 hk u a1 er (beq_no he) (by omega) hu _
      · by_cases h8 : (k : Int) = 8
        · obtain rfl : k = 8 := by omega
          exact read_no_8 s w hs h0 hk u a1 er (beq_no he) (by omega) hu _
        · exact read_no_0 s w hs h0 k hk (by omega) u a1 er (beq_no he) (by omega) hu _

namespace Sp
def decP (s : ByteArray) : Ev × Int :=
  if (openS s).2 ≠ 0 then (zeroE, (openS s).2) else if (readP (openS s).1).2 = true then ((readP (openS s).1).1, 0) else (zeroE, 3)
end Sp

set_option maxHeartbeats 20000000 in
set_option maxRecDepth 100000 in
theorem dec_w (s t : ByteArray) (er : Int) (f : Ev) (b : Bool) (w : World) (hs : s.size ≤ 140737488351232) (ht : t.size ≤ 140737488351232) (HO : Hid (openS s = (t, er))) (HR : Hid (readP t = (f, b))) (r : Ev) (er2 : Int)
    (H1 : er ≠ 0 → Hid (r = zeroE ∧ er2 = er)) (H2 : er = 0 → b = false → Hid (r = zeroE ∧ er2 = 3)) (H3 : er = 0 → b = true → Hid (r = f ∧ er2 = 0)) :
    Calls Try.prog 31 #[.string s] w fun e w' => e = .returned (.tuple #[evV r, .int .i64 er2]) ∧ Below w.heap.size w w' := by
  by_cases he : er = 0
  · subst he
    cases b with
    | true =>
      obtain ⟨HA, HB⟩ := (H3 rfl rfl).out
      have HA' := Lib.hid HA
      have HB' := Lib.hid HB
      clear H1 H2 H3 HA HB
      go_enter Try.func31, Try.ntmps31
      go_wp2_with fail
      refine (re_ (crcOpen_calls s _ hs) (by rw [HO.out])).mono ?_
      rintro e w1 ⟨rfl, b1⟩
      have B1 := below_call (below_box _) b1
      obtain ⟨hc1, hf1⟩ := bcell b1
      have hz1 : w.heap.size < w1.heap.size := Nat.lt_of_lt_of_le (by simp) b1.size
      clear b1
      go_wp2_with fail
      refine (read_calls t _ ht).mono ?_
      rintro e w2 ⟨⟨k, u, o, i, a, p, n, x⟩, rfl, hr, b2⟩
      rw [HR.out] at hr
      have HF := Lib.hid (hr rfl)
      clear hr
      rw [HR.out]
      unfold evV
      have B2 := below_call B1 b2
      obtain ⟨hc2, hf2⟩ := bcell b2
      have hz2 : w.heap.size < w2.heap.size := Nat.lt_of_lt_of_le hz1 b2.size
      clear b2
      go_wp2
      (try simp only [Exit.inBlock, Exit.then])
      refine bodyPost_ret (v := .tuple #[evV ⟨k, u, o, i, a, p, n, x⟩, .int .i64 0]) (by simp [results, Try.results31, go_sem, evV, hc1, hc2, hz1, hz2, Nat.ne_of_lt hz2, Nat.ne_of_gt hz2, Nat.lt_succ_of_lt hz2, Nat.lt_succ_of_lt hz1]) rfl ⟨by rw [HA'.out, HB'.out, ← HF.out], ?_⟩
      repeat (first | with_reducible exact B2 | with_reducible refine bset ?_ _ _ _ (Nat.le_refl _) | with_reducible refine below_alloc0 ?_ _)
    | false =>
      obtain ⟨HA, HB⟩ := (H2 rfl rfl).out
      have HA' := Lib.hid HA
      have HB' := Lib.hid HB
      clear H1 H2 H3 HA HB
      go_enter Try.func31, Try.ntmps31
      go_wp2_with fail
      refine (re_ (crcOpen_calls s _ hs) (by rw [HO.out])).mono ?_
      rintro e w1 ⟨rfl, b1⟩
      have B1 := below_call (below_box _) b1
      obtain ⟨hc1, hf1⟩ := bcell b1
      have hz1 : w.heap.size < w1.heap.size := Nat.lt_of_lt_of_le (by simp) b1.size
      clear b1
      go_wp2_with fail
      refine (read_calls t _ ht).mono ?_
      rintro e w2 ⟨⟨k, u, o, i, a, p, n, x⟩, rfl, hr, b2⟩
      clear hr
      rw [HR.out]
      unfold evV
      have B2 := below_call B1 b2
      obtain ⟨hc2, hf2⟩ := bcell b2
      have hz2 : w.heap.size < w2.heap.size := Nat.lt_of_lt_of_le hz1 b2.size
      clear b2
      go_wp2
      (try simp only [Exit.inBlock, Exit.then])
      refine bodyPost_ret (v := .tuple #[evV zeroE, .int .i64 3]) (by simp [results, Try.results31, go_sem, evV, zeroE, zeroV, hc1, hc2, hz1, hz2, Nat.ne_of_lt hz2, Nat.ne_of_gt hz2, Nat.lt_succ_of_lt hz2, Nat.lt_succ_of_lt hz1]) rfl ⟨by rw [HA'.out, HB'.out], ?_⟩
      repeat (first | with_reducible exact B2 | with_reducible refine bset ?_ _ _ _ (Nat.le_refl _) | with_reducible refine below_alloc0 ?_ _)
  · obtain ⟨HA, HB⟩ := (H1 he).out
    have HA' := Lib.hid HA
    have HB' := Lib.hid HB
    have heb : (er != 0) = true := by simpa using he
    clear H1 H2 H3 HA HB he
    go_enter Try.func31, Try.ntmps31
    go_wp2_with fail
    refine (re_ (crcOpen_calls s _ hs) (by rw [HO.out])).mono ?_
    rintro e w1 ⟨rfl, b1⟩
    have B1 := below_call (below_box _) b1
    obtain ⟨hc1, hf1⟩ := bcell b1
    clear b1
    go_wp2
    (try simp only [Exit.inBlock, Exit.then])
    refine bodyPost_ret (v := .tuple #[evV zeroE, .int .i64 er]) (by simp [results, Try.results31, go_sem, evV, zeroE, zeroV, hc1]) rfl ⟨by rw [HA'.out, HB'.out], ?_⟩
    repeat (first | with_reducible exact B1 | with_reducible refine bset ?_ _ _ _ (Nat.le_refl _) | with_reducible refine below_alloc0 ?_ _)
theorem dec_calls (s : ByteArray) (w : World) (hs : s.size ≤ 140737488351232) :
    Calls Try.prog 31 #[.string s] w fun e w' => e = .returned (.tuple #[evV (decP s).1, .int .i64 (decP s).2]) ∧ Below w.heap.size w w' := by
  obtain ⟨t, er, ho⟩ : ∃ t er, openS s = (t, er) := ⟨_, _, rfl⟩
  have htl := openS_len s
  obtain ⟨f, b, hr⟩ : ∃ r b, readP t = (r, b) := ⟨_, _, rfl⟩
  rw [ho] at htl
  simp only at htl
  refine dec_w s t er f b w hs (by omega) ho hr (decP s).1 (decP s).2 (fun h => ?_) (fun h h2 => ?_) (fun h h2 => ?_)
  all_goals (unfold Hid decP; simp only [ho, hr])
  · rw [if_pos h]; exact ⟨rfl, rfl⟩
  · rw [if_neg (by simpa using h), if_neg (by rw [h2]; exact Bool.false_ne_true)]; exact ⟨rfl, rfl⟩
  · rw [if_neg (by simpa using h), if_pos h2]; exact ⟨rfl, rfl⟩
end Go.Proofs.Ytobhlcogopcbdaa
