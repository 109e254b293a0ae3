/-
Layer 13: few calls of short names; live.
-/
import Derived.Test.YtocdoddmaopdbaaIxG
set_option linter.unusedVariables false
set_option linter.unusedSimpArgs false
namespace Go.Proofs.Ytocdoddmaopdbaa
open Go.RowKit Go.Maps
open Sp
namespace Sp
def fewI (l : List OpI) : Bool := decide (l.length ≤ 80) && l.all fun x => decide (x.w.size ≤ 40) && decide (x.c.size ≤ 40)
theorem fewI_iff {l : List OpI} : fewI l = true ↔ l.length ≤ 80 ∧ ∀ i (h : i < l.length), l[i].w.size ≤ 40 ∧ l[i].c.size ≤ 40 := by
  unfold fewI
  rw [Bool.and_eq_true, decide_eq_true_eq, List.all_eq_true]
  constructor
  · rintro ⟨h1, h2⟩
    refine ⟨h1, fun i h => ?_⟩
    have := h2 _ (List.getElem_mem h)
    simpa using this
  · rintro ⟨h1, h2⟩
    refine ⟨h1, fun x hx => ?_⟩
    obtain ⟨i, h, rfl⟩ := List.getElem_of_mem hx
    simpa using h2 i h
end Sp
set_option maxHeartbeats 16000000 in
set_option maxRecDepth 100000 in
theorem few_is (n c : Nat) (A : Option Addr) (l : List OpI) (w : World) (hl : Row enOp 3 w (.slice A n c) l) (hz : ∀ x ∈ l, x.w.size ≤ 9223372036854775807 ∧ x.c.size ≤ 9223372036854775807) (b : Bool) (hb : Hid (fewI l = b)) :
    Calls Try.prog 9 #[.slice A n c] w fun e w' => e = .returned (.bool b) ∧ Below w.heap.size w w' := by
  have EA := Lib.hid hl.len_eq
  have hlen := hl.len
  have hn63 : n ≤ 9223372036854775807 := by have := EA.out; omega
  clear hlen
  by_cases hm : 80 < n
  · have HV : Hid (b = false) := by
      show _ = _
      rw [← hb.out]
      cases h : fewI l with
      | false => rfl
      | true => have := (fewI_iff.1 h).1; have := EA.out; omega
    go_enter Try.func9, Try.ntmps9
    go_wp2
    go_ret
    exact ⟨ret_bool HV.out.symm, Below.refl _ _⟩
  · have hn80 : n ≤ 80 := by omega
    go_enter Try.func9, Try.ntmps9
    go_wp2
    go_loopw [3] (fun v3 wr => ∃ i : Nat, v3 = .int .i64 i ∧ i ≤ n ∧ wr = w ∧ Hid (∀ j (h : j < l.length), j < i → l[j].w.size ≤ 40 ∧ l[j].c.size ≤ 40)) (fun v3 _ => (n - intOf v3).toNat)
    case atStart => exact ⟨0, rfl, Nat.zero_le _, rfl, fun j h hj => absurd hj (by omega)⟩
    case round =>
      obtain ⟨i, rfl, hi, rfl, HT⟩ := hrel
      by_cases hlt : i < n
      · have hil : i < l.length := by have := EA.out; omega
        obtain ⟨⟨d, p, q⟩, he⟩ : ∃ e, l[i] = e := ⟨_, rfl⟩
        obtain ⟨ad, rfl, c0, c1, c2⟩ := rowOp hl i hil d p q he
        have hpq := hz l[i] (List.getElem_mem _)
        rw [he] at hpq
        obtain ⟨hp, hq⟩ := hpq
        simp only at hp hq
        have HE := Lib.hid he
        clear he
        by_cases h1 : (40 : Int) < (p.size : Int)
        · have HV : Hid (b = false) := by
            show _ = _
            rw [← hb.out]
            cases h : fewI l with
            | false => rfl
            | true => have := (fewI_iff.1 h).2 i hil; rw [HE.out] at this; simp only at this; omega
          go_wp2
          go_ret
          exact ⟨ret_bool HV.out.symm, Below.refl _ _⟩
        · by_cases h2 : (40 : Int) < (q.size : Int)
          · have HV : Hid (b = false) := by
              show _ = _
              rw [← hb.out]
              cases h : fewI l with
              | false => rfl
              | true => have := (fewI_iff.1 h).2 i hil; rw [HE.out] at this; simp only at this; omega
            go_wp2
            go_ret
            exact ⟨ret_bool HV.out.symm, Below.refl _ _⟩
          · have HT2 : Hid (∀ j (h : j < l.length), j < i + 1 → l[j].w.size ≤ 40 ∧ l[j].c.size ≤ 40) := fun j h hj => by
              rcases Nat.lt_or_ge j i with h' | h'
              · exact HT.out j h h'
              · obtain rfl : j = i := by omega
                rw [HE.out]
                simp only
                omega
            go_wp2
            exact ⟨⟨i + 1, by go_num, by omega, by trivial, HT2⟩, by simp [intOf]; omega⟩
      · have HV : Hid (b = true) := by
          show _ = _
          rw [← hb.out]
          exact fewI_iff.2 ⟨by have := EA.out; omega, fun j h => HT.out j h (by have := EA.out; omega)⟩
        go_wp2
        go_ret
        exact ⟨ret_bool HV.out.symm, Below.refl _ _⟩
theorem l13_0 : Hid (setP [] ⟨#[99]⟩ ⟨#[98]⟩ true = ([(⟨#[99]⟩, ⟨#[98]⟩)], true)) := by show _ = _; decide +kernel
theorem l13_1 : Hid (setP [(⟨#[99]⟩, ⟨#[98]⟩)] ⟨#[97]⟩ ⟨#[98]⟩ true = ([(⟨#[99]⟩, ⟨#[98]⟩), (⟨#[97]⟩, ⟨#[98]⟩)], true)) := by show _ = _; decide +kernel
theorem l13_2 : Hid (setP [(⟨#[99]⟩, ⟨#[98]⟩), (⟨#[97]⟩, ⟨#[98]⟩)] ⟨#[97]⟩ ⟨#[98]⟩ true = ([(⟨#[99]⟩, ⟨#[98]⟩), (⟨#[97]⟩, ⟨#[98]⟩)], false)) := by show _ = _; decide +kernel
theorem l13_3 : Hid (setP [(⟨#[99]⟩, ⟨#[98]⟩), (⟨#[97]⟩, ⟨#[98]⟩)] ⟨#[97]⟩ ⟨#[97]⟩ true = ([(⟨#[99]⟩, ⟨#[98]⟩), (⟨#[97]⟩, ⟨#[98]⟩), (⟨#[97]⟩, ⟨#[97]⟩)], true)) := by show _ = _; decide +kernel
theorem l13_w : Hid (sideP [(⟨#[99]⟩, ⟨#[98]⟩), (⟨#[97]⟩, ⟨#[98]⟩), (⟨#[97]⟩, ⟨#[97]⟩)] ⟨#[98]⟩ true = [⟨#[97]⟩, ⟨#[99]⟩]) := by show _ = _; decide +kernel
theorem l13_k : Hid (sideP [(⟨#[99]⟩, ⟨#[98]⟩), (⟨#[97]⟩, ⟨#[98]⟩), (⟨#[97]⟩, ⟨#[97]⟩)] ⟨#[97]⟩ false = [⟨#[97]⟩, ⟨#[98]⟩]) := by show _ = _; decide +kernel
theorem l13_6 : Hid (setP [(⟨#[99]⟩, ⟨#[98]⟩), (⟨#[97]⟩, ⟨#[98]⟩), (⟨#[97]⟩, ⟨#[97]⟩)] ⟨#[99]⟩ ⟨#[98]⟩ false = ([(⟨#[97]⟩, ⟨#[98]⟩), (⟨#[97]⟩, ⟨#[97]⟩)], true)) := by show _ = _; decide +kernel
theorem l13_7 : Hid (setP [(⟨#[97]⟩, ⟨#[98]⟩), (⟨#[97]⟩, ⟨#[97]⟩)] ⟨#[99]⟩ ⟨#[98]⟩ false = ([(⟨#[97]⟩, ⟨#[98]⟩), (⟨#[97]⟩, ⟨#[97]⟩)], false)) := by show _ = _; decide +kernel
theorem l13_f : Hid (forgetP [(⟨#[97]⟩, ⟨#[98]⟩), (⟨#[97]⟩, ⟨#[97]⟩)] ⟨#[97]⟩ = []) := by show _ = _; decide +kernel
set_option maxHeartbeats 16000000 in
set_option maxRecDepth 100000 in
theorem live13 (w : World) : Calls Try.prog 10 #[] w fun e w' => e = .returned (.bool true) ∧ Below w.heap.size w w' := by
  go_enter Try.func10, Try.ntmps10
  go_wp2_with fail
  with_reducible refine (ix_new w w (Below.refl _ _)).mono ?_
  rintro e w0 ⟨a, rfl, hI, D⟩
  go_wp2_with fail
  with_reducible refine (ix_set hI D ⟨#[99]⟩ ⟨#[98]⟩ true (by decide) (by decide) (by omega)).mono ?_
  rintro e w1 ⟨rfl, hI1, D1, K1⟩
  rw [l13_0.out] at hI1 ⊢
  clear K1 D hI
  have D := D1
  have hI := hI1
  clear D1 hI1
  go_wp2_with fail
  with_reducible refine (ix_set hI D ⟨#[97]⟩ ⟨#[98]⟩ true (by decide) (by decide) (by omega)).mono ?_
  rintro e w1 ⟨rfl, hI1, D1, K1⟩
  rw [l13_1.out] at hI1 ⊢
  clear K1 D hI
  have D := D1
  have hI := hI1
  clear D1 hI1
  go_wp2_with fail
  with_reducible refine (ix_set hI D ⟨#[97]⟩ ⟨#[98]⟩ true (by decide) (by decide) (by omega)).mono ?_
  rintro e w1 ⟨rfl, hI1, D1, K1⟩
  rw [l13_2.out] at hI1 ⊢
  clear K1 D hI
  have D := D1
  have hI := hI1
  clear D1 hI1
  go_wp2_with fail
  with_reducible refine (ix_set hI D ⟨#[97]⟩ ⟨#[97]⟩ true (by decide) (by decide) (by omega)).mono ?_
  rintro e w1 ⟨rfl, hI1, D1, K1⟩
  rw [l13_3.out] at hI1 ⊢
  clear K1 D hI
  have D := D1
  have hI := hI1
  clear D1 hI1
  go_wp2_with fail
  with_reducible refine (ix_watchers hI ⟨#[98]⟩ (by decide) (by omega)).mono ?_
  rintro e w1 ⟨vw, rfl, rw, b1⟩
  rw [l13_w.out] at rw
  obtain ⟨Aw, cw, rfl⟩ := form_S rw
  replace hI := hI.below b1
  replace D := below_call D b1
  clear b1
  go_wp2_with fail
  with_reducible refine (ix_contacts hI ⟨#[97]⟩ (by decide) (by omega)).mono ?_
  rintro e w1 ⟨vk, rfl, rk, b1⟩
  rw [l13_k.out] at rk
  obtain ⟨Ak, ck, rfl⟩ := form_S rk
  replace rw := rw.below b1
  replace hI := hI.below b1
  replace D := below_call D b1
  clear b1
  go_wp2_with fail
  with_reducible refine (ix_len hI).mono ?_
  rintro e w1 ⟨rfl, b1⟩
  replace rw := rw.below b1
  replace rk := rk.below b1
  replace hI := hI.below b1
  replace D := below_call D b1
  clear b1
  go_wp2_with fail
  with_reducible refine (ix_set hI D ⟨#[99]⟩ ⟨#[98]⟩ false (by decide) (by decide) (by omega)).mono ?_
  rintro e w1 ⟨rfl, hI1, D1, K1⟩
  rw [l13_6.out] at hI1 ⊢
  replace rw := K1.row rw
  replace rk := K1.row rk
  clear K1 D hI
  have D := D1
  have hI := hI1
  clear D1 hI1
  go_wp2_with fail
  with_reducible refine (ix_set hI D ⟨#[99]⟩ ⟨#[98]⟩ false (by decide) (by decide) (by omega)).mono ?_
  rintro e w1 ⟨rfl, hI1, D1, K1⟩
  rw [l13_7.out] at hI1 ⊢
  replace rw := K1.row rw
  replace rk := K1.row rk
  clear K1 D hI
  have D := D1
  have hI := hI1
  clear D1 hI1
  go_wp2_with fail
  with_reducible refine (ix_forget hI D ⟨#[97]⟩ (by decide) (by decide) (by decide)).mono ?_
  rintro e w1 ⟨rfl, hI1, D1, K1⟩
  rw [l13_f.out] at hI1 ⊢
  replace rw := K1.row rw
  replace rk := K1.row rk
  clear K1 D hI
  have D := D1
  have hI := hI1
  clear D1 hI1
  have bb := below_box (w := w1) (.cells #[.string ⟨#[97]⟩, .string ⟨#[99]⟩] 9)
  have rr : Row enS 1 (w1.alloc (.cells #[.string ⟨#[97]⟩, .string ⟨#[99]⟩] 9)) (.slice (some ⟨w1.heap.size, 0, none⟩) 2 2) [⟨#[97]⟩, ⟨#[99]⟩] := (Own.lit (base := w1.heap.size) enS_len w1 _ _ 2 rfl rfl (Nat.le_refl _) (by decide)).row
  replace rw := rw.below bb
  replace rk := rk.below bb
  replace hI := hI.below bb
  replace D := below_call D bb
  go_wp2_with fail
  with_reducible refine (refSame_calls 2 cw 2 2 Aw _ _ _ _ rw rr).mono ?_
  rintro e w2 ⟨rfl, b2⟩
  replace hI := hI.below b2
  replace D := below_call D b2
  replace rk := rk.below b2
  clear b2 bb rr rw
  rw [decide_eq_true rfl]
  have bb := below_box (w := w2) (.cells #[.string ⟨#[97]⟩, .string ⟨#[98]⟩] 9)
  have rr : Row enS 1 (w2.alloc (.cells #[.string ⟨#[97]⟩, .string ⟨#[98]⟩] 9)) (.slice (some ⟨w2.heap.size, 0, none⟩) 2 2) [⟨#[97]⟩, ⟨#[98]⟩] := (Own.lit (base := w2.heap.size) enS_len w2 _ _ 2 rfl rfl (Nat.le_refl _) (by decide)).row
  replace rk := rk.below bb
  replace hI := hI.below bb
  replace D := below_call D bb
  go_wp2_with fail
  with_reducible refine (refSame_calls 2 ck 2 2 Ak _ _ _ _ rk rr).mono ?_
  rintro e w3 ⟨rfl, b2⟩
  replace hI := hI.below b2
  replace D := below_call D b2
  clear b2 bb rr rk
  rw [decide_eq_true rfl]
  go_wp2_with fail
  with_reducible refine (ix_len hI).mono ?_
  rintro e w4 ⟨rfl, b2⟩
  replace hI := hI.below b2
  replace D := below_call D b2
  clear b2
  go_wp2_with fail
  with_reducible refine (ix_has hI ⟨#[97]⟩ ⟨#[98]⟩ (by decide) (by decide)).mono ?_
  rintro e w5 ⟨rfl, b2⟩
  replace D := below_call D b2
  rw [show inP [] ⟨#[97]⟩ ⟨#[98]⟩ = false from rfl]
  go_wp2
  go_ret
  exact ⟨rfl, D⟩
end Go.Proofs.Ytocdoddmaopdbaa
