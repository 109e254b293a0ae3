/-
Layer 5: the walks of DigestTells and DigestTakes.
-/
import Derived.Test.YtcopiimflloooaaDigQ
set_option linter.unusedVariables false
set_option linter.unusedSimpArgs false
namespace Go.Proofs.Ytcopiimflloooaa
open Go.RowKit
open Sp
abbrev SzN (l : List Sn) : Prop := ∀ s ∈ l, s.c.size ≤ 9223372036854775807 ∧ s.v.2.2.2.size ≤ 9223372036854775807
set_option maxHeartbeats 16000000 in
set_option maxRecDepth 100000 in
theorem tells5_walk (n c : Nat) (A : Option Addr) (l : List Sn) (w : World) (hl : Row enSn 5 w (.slice A n c) l) (hz : SzN l) :
    Calls Try.prog 8 #[.slice A n c] w fun e w' => e = .returned (.bool true) ∧ Below w.heap.size w w' := by
  have EA := Lib.hid hl.len_eq
  have D := Below.refl w.heap.size w
  cases h : fewT l with
  | false =>
    have H := Lib.hid h
    clear h
    go_enter Try.func8, Try.ntmps8
    go_wp2_with fail
    with_reducible refine (few5_is n c A l _ (hl.below D) false hz H).mono ?_
    rintro e w1 ⟨rfl, b1⟩
    replace D := below_call D b1
    clear b1
    go_wp2_with fail
    with_reducible refine (live05 _).mono ?_
    rintro e w2 ⟨rfl, b2⟩
    replace D := below_call D b2
    clear b2
    go_wp2
    go_ret
    exact ⟨rfl, D⟩
  | true =>
  obtain ⟨hs, h50⟩ := fewT_sz h
  have H := Lib.hid h
  clear h h50
  obtain ⟨s, b, hp⟩ : ∃ s b, putT l = (s, b) := ⟨_, _, rfl⟩
  obtain ⟨m, hm⟩ : ∃ m, mayT l = m := ⟨_, rfl⟩
  obtain ⟨k, hk⟩ : ∃ k, ((sumT l : Nat) : Int) = k := ⟨_, rfl⟩
  have HP := Lib.hid hp
  have HM := Lib.hid hm
  have HK := Lib.hid hk
  clear hp hm hk
  go_enter Try.func8, Try.ntmps8
  go_wp2_with fail
  with_reducible refine (few5_is n c A l _ (hl.below D) true hz H).mono ?_
  rintro e w1 ⟨rfl, b1⟩
  replace D := below_call D b1
  clear b1
  go_wp2_with fail
  with_reducible refine (Put5_is n c A l _ (hl.below D) s b hs HP).mono ?_
  rintro e w2 ⟨rfl, b2⟩
  replace D := below_call D b2
  clear b2
  go_wp2_with fail
  with_reducible refine (refPut5_is n c A l _ (hl.below D) s b hs HP).mono ?_
  rintro e w3 ⟨rfl, b3⟩
  replace D := below_call D b3
  clear b3
  go_wp2_with fail
  with_reducible refine (May5_is n c A l _ (hl.below D) m hs HM).mono ?_
  rintro e w4 ⟨rfl, b4⟩
  replace D := below_call D b4
  clear b4
  go_wp2_with fail
  with_reducible refine (refMay5_is n c A l _ (hl.below D) m hs HM).mono ?_
  rintro e w5 ⟨rfl, b5⟩
  replace D := below_call D b5
  clear b5
  go_wp2_with fail
  with_reducible refine (Sum5_is n c A l _ (hl.below D) k hs HK).mono ?_
  rintro e w6 ⟨rfl, b6⟩
  replace D := below_call D b6
  clear b6
  go_wp2_with fail
  with_reducible refine (refSum5_is n c A l _ (hl.below D) k hs HK).mono ?_
  rintro e w7 ⟨rfl, b7⟩
  replace D := below_call D b7
  clear b7
  go_wp2_with fail
  with_reducible refine (live05 _).mono ?_
  rintro e w8 ⟨rfl, b8⟩
  replace D := below_call D b8
  clear b8
  go_wp2
  go_ret
  exact ⟨rfl, D⟩
set_option maxHeartbeats 16000000 in
set_option maxRecDepth 100000 in
theorem takes5_walk (s : ByteArray) (a : Int) (w : World) (hq : s.size ≤ 9223372036854775807) :
    Calls Try.prog 9 #[.string s, .int .i64 a] w fun e w' => e = .returned (.bool true) ∧ Below w.heap.size w w' := by
  have D := Below.refl w.heap.size w
  by_cases hqs : (1500 : Int) < (s.size : Int)
  · go_enter Try.func9, Try.ntmps9
    go_wp2_with fail
    with_reducible refine (live05 _).mono ?_
    rintro e w1 ⟨rfl, b1⟩
    replace D := below_call D b1
    clear b1
    go_wp2
    go_ret
    exact ⟨rfl, D⟩
  have hss : (s.size : Int) ≤ 1500 := by omega
  have hs : s.size ≤ 140737488351232 := by omega
  clear hqs hq
  obtain ⟨r, to, er, hr⟩ : ∃ r to er, takeT s a = (r, to, er) := ⟨_, _, _, rfl⟩
  have HR := Lib.hid hr
  clear hr
  go_enter Try.func9, Try.ntmps9
  go_wp2_with fail
  with_reducible refine (TakeT_is s a r to er _ hs HR).mono ?_
  rintro e w1 ⟨v1, rfl, r1, b1⟩
  replace D := below_call D b1
  clear b1
  obtain ⟨A1, c1, rfl⟩ := r1.form5 _ rfl
  go_wp2_with fail
  with_reducible refine (refTakeT_is s a r to er _ hs HR).mono ?_
  rintro e w2 ⟨v2, rfl, r2, b2⟩
  replace r1 := r1.below b2
  replace D := below_call D b2
  clear b2
  obtain ⟨A2, c2, rfl⟩ := r2.form5 _ rfl
  go_wp2_with fail
  with_reducible refine (Same5_is _ _ _ r _ r1 _ _ _ r r2 true (Lib.hid (decide_eq_true rfl))).mono ?_
  rintro e w3 ⟨rfl, b3⟩
  replace r1 := r1.below b3
  replace r2 := r2.below b3
  replace D := below_call D b3
  clear b3
  clear r1 r2
  go_wp2_with fail
  with_reducible refine (live05 _).mono ?_
  rintro e w4 ⟨rfl, b4⟩
  replace D := below_call D b4
  clear b4
  go_wp2
  go_ret
  exact ⟨rfl, D⟩
end Go.Proofs.Ytcopiimflloooaa
