/-
Layer 5: the walk of DigestBack.
-/
import Derived.Test.YtcopiimflloooaaDigS
set_option linter.unusedVariables false
set_option linter.unusedSimpArgs false
namespace Go.Proofs.Ytcopiimflloooaa
open Go.RowKit
open Sp
theorem putT_eq {l : List Sn} {b : Bool} (h : mayT l = b) : putT l = ((putT l).1, b) := by
  cases b with
  | true => rw [putT_ok h]
  | false => rw [putT_no h]
theorem putT_emp {l : List Sn} (h : mayT l = false) : putT l = (⟨#[]⟩, false) := putT_no h
theorem take_app {l : List Sn} {s d : ByteArray} (h : mayT l = true) (hs : (putT l).1 = s) : takeT (s ++ d) 0 = (l, (s.size : Int), 0) := by
  have := takeT_put (s ++ d) l 0 d.data.toList h (by rw [List.drop_zero, data_append, hs])
  rw [hs] at this
  rw [show (0 : Int) = ((0 : Nat) : Int) from rfl, this]
  simp
theorem same_put {l m : List Sn} {s r : ByteArray} (hl : mayT l = true) (hm : mayT m = true) (hs : (putT l).1 = s) (hr : (putT m).1 = r) : (s.toList == r.toList) = decide (l = m) := by
  rw [Bool.eq_iff_iff, decide_eq_true_eq, beq_iff_eq, toList_inj', ← hs, ← hr]
  exact ⟨fun h => putT_inj hl hm h, fun h => by rw [h]⟩
set_option maxHeartbeats 16000000 in
set_option maxRecDepth 100000 in
theorem back5_walk (n c : Nat) (A : Option Addr) (l : List Sn) (n2 c2 : Nat) (A2 : Option Addr) (m : List Sn) (d : ByteArray) (w : World) (hl : Row enSn 5 w (.slice A n c) l) (hz : SzN l) (hm : Row enSn 5 w (.slice A2 n2 c2) m) (hz2 : SzN m) (hq : d.size ≤ 9223372036854775807) :
    Calls Try.prog 11 #[.slice A n c, .slice A2 n2 c2, .string d] w fun e w' => e = .returned (.bool true) ∧ Below w.heap.size w w' := by
  have D := Below.refl w.heap.size w
  cases h : fewT l with
  | false =>
    have H := Lib.hid h
    clear h
    go_enter Try.func11, Try.ntmps11
    go_wp2_with fail
    with_reducible refine (few5_is n c A l _ (hl.below D) false hz H).mono ?_
    rintro e w1 ⟨rfl, b1⟩
    replace D := below_call D b1
    clear b1
    go_wp2_with fail
    with_reducible refine (live05 _).mono ?_
    rintro e w2 ⟨rfl, b2⟩
    replace D := below_call D b2
    clear b2
    go_wp2
    go_ret
    exact ⟨rfl, D⟩
  | true =>
  obtain ⟨hs, h50⟩ := fewT_sz h
  have H := Lib.hid h
  clear h h50
  cases h : fewT m with
  | false =>
    have H2 := Lib.hid h
    clear h
    go_enter Try.func11, Try.ntmps11
    go_wp2_with fail
    with_reducible refine (few5_is n c A l _ (hl.below D) true hz H).mono ?_
    rintro e w1 ⟨rfl, b1⟩
    replace D := below_call D b1
    clear b1
    go_wp2_with fail
    with_reducible refine (few5_is n2 c2 A2 m _ (hm.below D) false hz2 H2).mono ?_
    rintro e w2 ⟨rfl, b2⟩
    replace D := below_call D b2
    clear b2
    go_wp2_with fail
    with_reducible refine (live05 _).mono ?_
    rintro e w3 ⟨rfl, b3⟩
    replace D := below_call D b3
    clear b3
    go_wp2
    go_ret
    exact ⟨rfl, D⟩
  | true =>
  obtain ⟨hs2, h50⟩ := fewT_sz h
  have H2 := Lib.hid h
  clear h h50
  by_cases hqs : (300 : Int) < (d.size : Int)
  · go_enter Try.func11, Try.ntmps11
    go_wp2_with fail
    with_reducible refine (few5_is n c A l _ (hl.below D) true hz H).mono ?_
    rintro e w1 ⟨rfl, b1⟩
    replace D := below_call D b1
    clear b1
    go_wp2_with fail
    with_reducible refine (few5_is n2 c2 A2 m _ (hm.below D) true hz2 H2).mono ?_
    rintro e w2 ⟨rfl, b2⟩
    replace D := below_call D b2
    clear b2
    go_wp2_with fail
    with_reducible refine (live05 _).mono ?_
    rintro e w3 ⟨rfl, b3⟩
    replace D := below_call D b3
    clear b3
    go_wp2
    go_ret
    exact ⟨rfl, D⟩
  have hds : (d.size : Int) ≤ 300 := by omega
  have hdn : d.size ≤ 300 := by omega
  clear hqs hq
  obtain ⟨wt, to, er, hr⟩ : ∃ r to er, takeT d 0 = (r, to, er) := ⟨_, _, _, rfl⟩
  have HR := Lib.hid hr
  obtain ⟨r, hpr⟩ : ∃ r, (putT m).1 = r := ⟨_, rfl⟩
  obtain ⟨b2, hb2⟩ : ∃ b, mayT m = b := ⟨_, rfl⟩
  have hp2 := putT_eq hb2
  rw [hpr] at hp2
  have HP2 := Lib.hid hp2
  have HB2 := Lib.hid hb2
  have HPR := Lib.hid hpr
  have hds2 : d.size ≤ 140737488351232 := by omega
  clear hp2 hb2 hpr
  cases h : mayT l with
  | false =>
    have hp := putT_emp h
    have HP := Lib.hid hp
    have HM := Lib.hid h
    clear h hp
    go_enter Try.func11, Try.ntmps11
    go_wp2_with fail
    with_reducible refine (few5_is n c A l _ (hl.below D) true hz H).mono ?_
    rintro e w1 ⟨rfl, b1⟩
    replace D := below_call D b1
    clear b1
    go_wp2_with fail
    with_reducible refine (few5_is n2 c2 A2 m _ (hm.below D) true hz2 H2).mono ?_
    rintro e w2 ⟨rfl, b2⟩
    replace D := below_call D b2
    clear b2
    go_wp2_with fail
    with_reducible refine (Put5_is n c A l _ (hl.below D) ⟨#[]⟩ false hs HP).mono ?_
    rintro e w3 ⟨rfl, b3⟩
    replace D := below_call D b3
    clear b3
    go_wp2_with fail
    with_reducible refine (May5_is n c A l _ (hl.below D) false hs HM).mono ?_
    rintro e w4 ⟨rfl, b4⟩
    replace D := below_call D b4
    clear b4
    go_wp2_with fail
    with_reducible refine (Put5_is n2 c2 A2 m _ (hm.below D) r b2 hs2 HP2).mono ?_
    rintro e w5 ⟨rfl, b5⟩
    replace D := below_call D b5
    clear b5
    by_cases he : er ≠ 0
    · obtain ⟨rfl, rfl⟩ := takeT_bad _ _ _ _ _ HR.out he
      have hne : (er == 0) = false := by simpa using he
      have hne2 : ¬ er = 0 := he
      clear he
      go_wp2_with fail
      with_reducible refine (TakeT_is d 0 [] 0 er _ hds2 HR).mono ?_
      rintro e w6 ⟨v8, rfl, r8, b6⟩
      replace D := below_call D b6
      clear b6
      obtain ⟨A8, c8, rfl⟩ := r8.form5 0 rfl
      clear r8
      go_wp2_with fail
      with_reducible refine (live05 _).mono ?_
      rintro e w7 ⟨rfl, b7⟩
      replace D := below_call D b7
      clear b7
      go_wp2
      go_ret
      exact ⟨rfl, D⟩
    · obtain rfl : er = 0 := Classical.not_not.1 he
      clear he
      obtain ⟨hmw, h0, h1, hpw⟩ := takeT_text d ⟨#[]⟩ wt to HR.out
      obtain ⟨p, rfl⟩ : ∃ p : Nat, to = (p : Int) := ⟨to.toNat, by omega⟩
      rw [Int.toNat_natCast] at hpw
      have h3 : (p : Int) ≤ (d.size : Int) := h1
      have h4 : p ≤ d.size := by omega
      have h5 : (0 : Int) ≤ (p : Int) := by omega
      have hpt : putT wt = (d.extract 0 p, true) := by have := putT_eq hmw; rwa [hpw] at this
      have HPT := Lib.hid hpt
      have sw : SzT wt := mayT_sz hmw
      clear hmw hpw hpt h1 h0
      go_wp2_with fail
      with_reducible refine (TakeT_is d 0 wt p 0 _ hds2 HR).mono ?_
      rintro e w6 ⟨v8, rfl, r8, b6⟩
      replace D := below_call D b6
      clear b6
      obtain ⟨A8, c8, rfl⟩ := r8.form5 _ rfl
      go_wp2_with fail
      with_reducible refine (Put5_is _ _ _ wt _ r8 (d.extract 0 p) true sw HPT).mono ?_
      rintro e w7 ⟨rfl, b7⟩
      replace r8 := r8.below b7
      replace D := below_call D b7
      clear b7
      clear r8
      go_wp2_with fail
      with_reducible refine (live05 _).mono ?_
      rintro e w8 ⟨rfl, b8⟩
      replace D := below_call D b8
      clear b8
      go_wp2
      go_ret
      exact ⟨rfl, D⟩
  | true =>
    obtain ⟨s, hps⟩ : ∃ s, (putT l).1 = s := ⟨_, rfl⟩
    have hss : s.size ≤ 140737488000000 := by
      rw [← hps]
      have := putT_size l
      omega
    have hp := putT_eq h
    rw [hps] at hp
    have HP := Lib.hid hp
    have HM := Lib.hid h
    have HT : Hid (takeT (s ++ d) 0 = (l, (s.size : Int), 0)) := take_app h hps
    have hsd : (s ++ d).size ≤ 140737488351232 := by rw [ByteArray.size_append]; omega
    obtain ⟨bs, hbs⟩ : ∃ bs, decide (l = m) = bs := ⟨_, rfl⟩
    have HBS := Lib.hid hbs
    have HSP : b2 = true → Hid ((s.toList == r.toList) = bs) := fun h2 => by
      show _ = _
      rw [← hbs]
      exact same_put h (by rw [HB2.out]; exact h2) hps HPR.out
    clear h hp hps hbs
    go_enter Try.func11, Try.ntmps11
    go_wp2_with fail
    with_reducible refine (few5_is n c A l _ (hl.below D) true hz H).mono ?_
    rintro e w1 ⟨rfl, b1⟩
    replace D := below_call D b1
    clear b1
    go_wp2_with fail
    with_reducible refine (few5_is n2 c2 A2 m _ (hm.below D) true hz2 H2).mono ?_
    rintro e w2 ⟨rfl, b2⟩
    replace D := below_call D b2
    clear b2
    go_wp2_with fail
    with_reducible refine (Put5_is n c A l _ (hl.below D) s true hs HP).mono ?_
    rintro e w3 ⟨rfl, b3⟩
    replace D := below_call D b3
    clear b3
    go_wp2_with fail
    with_reducible refine (May5_is n c A l _ (hl.below D) true hs HM).mono ?_
    rintro e w4 ⟨rfl, b4⟩
    replace D := below_call D b4
    clear b4
    go_wp2_with fail
    with_reducible refine (TakeT_is (s ++ d) 0 l s.size 0 _ hsd HT).mono ?_
    rintro e w5 ⟨v5, rfl, r5, b5⟩
    replace D := below_call D b5
    clear b5
    obtain ⟨A5, c5, rfl⟩ := r5.form5 _ rfl
    go_wp2_with fail
    with_reducible refine (Same5_is _ _ _ l _ r5 n c A l (hl.below D) true (Lib.hid (decide_eq_true rfl))).mono ?_
    rintro e w6 ⟨rfl, b6⟩
    replace r5 := r5.below b6
    replace D := below_call D b6
    clear b6
    clear r5
    cases b2 with
    | false =>
      go_wp2_with fail
      with_reducible refine (Put5_is n2 c2 A2 m _ (hm.below D) r false hs2 HP2).mono ?_
      rintro e w7 ⟨rfl, b7⟩
      replace D := below_call D b7
      clear b7
      by_cases he : er ≠ 0
      · obtain ⟨rfl, rfl⟩ := takeT_bad _ _ _ _ _ HR.out he
        have hne : (er == 0) = false := by simpa using he
        have hne2 : ¬ er = 0 := he
        clear he
        go_wp2_with fail
        with_reducible refine (TakeT_is d 0 [] 0 er _ hds2 HR).mono ?_
        rintro e w8 ⟨v8, rfl, r8, b8⟩
        replace D := below_call D b8
        clear b8
        obtain ⟨A8, c8, rfl⟩ := r8.form5 0 rfl
        clear r8
        go_wp2_with fail
        with_reducible refine (live05 _).mono ?_
        rintro e w9 ⟨rfl, b9⟩
        replace D := below_call D b9
        clear b9
        go_wp2
        go_ret
        exact ⟨rfl, D⟩
      · obtain rfl : er = 0 := Classical.not_not.1 he
        clear he
        obtain ⟨hmw, h0, h1, hpw⟩ := takeT_text d ⟨#[]⟩ wt to HR.out
        obtain ⟨p, rfl⟩ : ∃ p : Nat, to = (p : Int) := ⟨to.toNat, by omega⟩
        rw [Int.toNat_natCast] at hpw
        have h3 : (p : Int) ≤ (d.size : Int) := h1
        have h4 : p ≤ d.size := by omega
        have h5 : (0 : Int) ≤ (p : Int) := by omega
        have hpt : putT wt = (d.extract 0 p, true) := by have := putT_eq hmw; rwa [hpw] at this
        have HPT := Lib.hid hpt
        have sw : SzT wt := mayT_sz hmw
        clear hmw hpw hpt h1 h0
        go_wp2_with fail
        with_reducible refine (TakeT_is d 0 wt p 0 _ hds2 HR).mono ?_
        rintro e w8 ⟨v8, rfl, r8, b8⟩
        replace D := below_call D b8
        clear b8
        obtain ⟨A8, c8, rfl⟩ := r8.form5 _ rfl
        go_wp2_with fail
        with_reducible refine (Put5_is _ _ _ wt _ r8 (d.extract 0 p) true sw HPT).mono ?_
        rintro e w9 ⟨rfl, b9⟩
        replace r8 := r8.below b9
        replace D := below_call D b9
        clear b9
        clear r8
        go_wp2_with fail
        with_reducible refine (live05 _).mono ?_
        rintro e w10 ⟨rfl, b10⟩
        replace D := below_call D b10
        clear b10
        go_wp2
        go_ret
        exact ⟨rfl, D⟩
    | true =>
      have hsame := (HSP rfl).out
      clear HSP
      go_wp2_with fail
      with_reducible refine (Put5_is n2 c2 A2 m _ (hm.below D) r true hs2 HP2).mono ?_
      rintro e w7 ⟨rfl, b7⟩
      replace D := below_call D b7
      clear b7
      go_wp2_with fail
      with_reducible refine (Same5_is n c A l _ (hl.below D) n2 c2 A2 m (hm.below D) bs HBS).mono ?_
      rintro e w8 ⟨rfl, b8⟩
      replace D := below_call D b8
      clear b8
      clear hsame
      by_cases he : er ≠ 0
      · obtain ⟨rfl, rfl⟩ := takeT_bad _ _ _ _ _ HR.out he
        have hne : (er == 0) = false := by simpa using he
        have hne2 : ¬ er = 0 := he
        clear he
        go_wp2_with fail
        with_reducible refine (TakeT_is d 0 [] 0 er _ hds2 HR).mono ?_
        rintro e w9 ⟨v8, rfl, r8, b9⟩
        replace D := below_call D b9
        clear b9
        obtain ⟨A8, c8, rfl⟩ := r8.form5 0 rfl
        clear r8
        go_wp2_with fail
        with_reducible refine (live05 _).mono ?_
        rintro e w10 ⟨rfl, b10⟩
        replace D := below_call D b10
        clear b10
        go_wp2
        go_ret
        exact ⟨rfl, D⟩
      · obtain rfl : er = 0 := Classical.not_not.1 he
        clear he
        obtain ⟨hmw, h0, h1, hpw⟩ := takeT_text d ⟨#[]⟩ wt to HR.out
        obtain ⟨p, rfl⟩ : ∃ p : Nat, to = (p : Int) := ⟨to.toNat, by omega⟩
        rw [Int.toNat_natCast] at hpw
        have h3 : (p : Int) ≤ (d.size : Int) := h1
        have h4 : p ≤ d.size := by omega
        have h5 : (0 : Int) ≤ (p : Int) := by omega
        have hpt : putT wt = (d.extract 0 p, true) := by have := putT_eq hmw; rwa [hpw] at this
        have HPT := Lib.hid hpt
        have sw : SzT wt := mayT_sz hmw
        clear hmw hpw hpt h1 h0
        go_wp2_with fail
        with_reducible refine (TakeT_is d 0 wt p 0 _ hds2 HR).mono ?_
        rintro e w9 ⟨v8, rfl, r8, b9⟩
        replace D := below_call D b9
        clear b9
        obtain ⟨A8, c8, rfl⟩ := r8.form5 _ rfl
        go_wp2_with fail
        with_reducible refine (Put5_is _ _ _ wt _ r8 (d.extract 0 p) true sw HPT).mono ?_
        rintro e w10 ⟨rfl, b10⟩
        replace r8 := r8.below b10
        replace D := below_call D b10
        clear b10
        clear r8
        go_wp2_with fail
        with_reducible refine (live05 _).mono ?_
        rintro e w11 ⟨rfl, b11⟩
        replace D := below_call D b11
        clear b11
        go_wp2
        go_ret
        exact ⟨rfl, D⟩
end Go.Proofs.Ytcopiimflloooaa
