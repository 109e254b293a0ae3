/-
Layer 8: the walk of RostTells.
-/
import Derived.Test.YtpmafghknafhaaaRosQ
set_option linter.unusedVariables false
set_option linter.unusedSimpArgs false
namespace Go.Proofs.Ytpmafghknafhaaa
open Go.RowKit
open Sp
abbrev SzE (l : List En) : Prop := ∀ s ∈ l, s.o.size ≤ 9223372036854775807 ∧ s.c.size ≤ 9223372036854775807
theorem fewRo_sz {l : List En} (h : fewRo l = true) : SzRo l ∧ l.length ≤ 80 := by
  unfold fewRo at h
  rw [Bool.and_eq_true, List.all_eq_true, decide_eq_true_eq] at h
  refine ⟨fun s hs => ?_, h.1⟩
  have := h.2 s hs
  rw [Bool.and_eq_true, decide_eq_true_eq, decide_eq_true_eq] at this
  omega
theorem few8_is (n c : Nat) (A : Option Addr) (l : List En) (w : World) (hl : Row enEn 7 w (.slice A n c) l) (b : Bool) (hz : SzE l) (h : Hid (fewRo l = b)) : Calls Try.prog 10 #[.slice A n c] w fun e w' => e = .returned (.bool b) ∧ Below w.heap.size w w' :=
  re_ (few8_calls n c A l w hl hz) (ret_bool h.out)
set_option maxHeartbeats 16000000 in
set_option maxRecDepth 100000 in
theorem tells8_walk (n c : Nat) (A : Option Addr) (l : List En) (p q : ByteArray) (w : World) (hl : Row enEn 7 w (.slice A n c) l) (hz : SzE l) (hp : p.size ≤ 9223372036854775807) (hq : q.size ≤ 9223372036854775807) :
    Calls Try.prog 3 #[.slice A n c, .string p, .string q] w fun e w' => e = .returned (.bool true) ∧ Below w.heap.size w w' := by
  have EA := Lib.hid hl.len_eq
  have D := Below.refl w.heap.size w
  cases h : fewRo l with
  | false =>
    have H := Lib.hid h
    clear h
    go_enter Try.func3, Try.ntmps3
    go_wp2_with fail
    with_reducible refine (few8_is n c A l _ (hl.below D) false hz H).mono ?_
    rintro e w1 ⟨rfl, b1⟩
    replace D := below_call D b1
    clear b1
    go_wp2_with fail
    with_reducible refine (live08 _).mono ?_
    rintro e w2 ⟨rfl, b2⟩
    replace D := below_call D b2
    clear b2
    go_wp2
    go_ret
    exact ⟨rfl, D⟩
  | true =>
  obtain ⟨hs, h80⟩ := fewRo_sz h
  have hn : n ≤ 100000 := by have := EA.out; omega
  have H := Lib.hid h
  clear h h80
  by_cases hps : (40 : Int) < (p.size : Int)
  · go_enter Try.func3, Try.ntmps3
    go_wp2_with fail
    with_reducible refine (few8_is n c A l _ (hl.below D) true hz H).mono ?_
    rintro e w1 ⟨rfl, b1⟩
    replace D := below_call D b1
    clear b1
    go_wp2_with fail
    with_reducible refine (live08 _).mono ?_
    rintro e w2 ⟨rfl, b2⟩
    replace D := below_call D b2
    clear b2
    go_wp2
    go_ret
    exact ⟨rfl, D⟩
  by_cases hqs : (40 : Int) < (q.size : Int)
  · go_enter Try.func3, Try.ntmps3
    go_wp2_with fail
    with_reducible refine (few8_is n c A l _ (hl.below D) true hz H).mono ?_
    rintro e w1 ⟨rfl, b1⟩
    replace D := below_call D b1
    clear b1
    go_wp2_with fail
    with_reducible refine (live08 _).mono ?_
    rintro e w2 ⟨rfl, b2⟩
    replace D := below_call D b2
    clear b2
    go_wp2
    go_ret
    exact ⟨rfl, D⟩
  have hps' : (p.size : Int) ≤ 40 := by omega
  have hqs' : (q.size : Int) ≤ 40 := by omega
  clear hps hqs
  obtain ⟨m, hm⟩ : ∃ m, mayRo l = m := ⟨_, rfl⟩
  obtain ⟨⟨a1, a2, a3, a4, a5⟩, hg⟩ : ∃ x, getRo l p q = x := ⟨_, rfl⟩
  obtain ⟨os, ho⟩ : ∃ r, ofRo l p = r := ⟨_, rfl⟩
  obtain ⟨b, hb⟩ : ∃ b, seesRo l p q = b := ⟨_, rfl⟩
  obtain ⟨ws, hw⟩ : ∃ r, watchRo l p = r := ⟨_, rfl⟩
  have HM := Lib.hid hm
  have HG := Lib.hid hg
  have HO := Lib.hid ho
  have HB := Lib.hid hb
  have HW := Lib.hid hw
  have hci := eqlIt a1 a2 a3 a4 a5 a1 a2 a3 a4 a5
  rw [eqvIt, decide_eq_true rfl] at hci
  clear hm hg ho hb hw
  go_enter Try.func3, Try.ntmps3
  go_wp2_with fail
  with_reducible refine (few8_is n c A l _ (hl.below D) true hz H).mono ?_
  rintro e w1 ⟨rfl, b1⟩
  replace D := below_call D b1
  clear b1
  go_wp2_with fail
  with_reducible refine (May8_is n c A l _ (hl.below D) m hs hn HM).mono ?_
  rintro e w2 ⟨rfl, b2⟩
  replace D := below_call D b2
  clear b2
  go_wp2_with fail
  with_reducible refine (refMay8_is n c A l _ (hl.below D) m hs hn HM).mono ?_
  rintro e w3 ⟨rfl, b3⟩
  replace D := below_call D b3
  clear b3
  go_wp2_with fail
  with_reducible refine (Get8_is n c A l _ (hl.below D) p q a1 a2 a3 a4 a5 HG).mono ?_
  rintro e w4 ⟨rfl, b4⟩
  replace D := below_call D b4
  clear b4
  go_wp2_with fail
  with_reducible refine (refGet8_is n c A l _ (hl.below D) p q a1 a2 a3 a4 a5 HG).mono ?_
  rintro e w5 ⟨rfl, b5⟩
  replace D := below_call D b5
  clear b5
  go_wp2_with fail
  with_reducible refine (Of8_is n c A l _ (hl.below D) p os hn HO).mono ?_
  rintro e w6 ⟨v1, rfl, r1, b6⟩
  replace D := below_call D b6
  clear b6
  obtain ⟨A1, c1, rfl⟩ := r1.form8 _ rfl
  go_wp2_with fail
  with_reducible refine (refOf8_is n c A l _ (hl.below D) p os hn HO).mono ?_
  rintro e w7 ⟨v2, rfl, r2, b7⟩
  replace r1 := r1.below b7
  replace D := below_call D b7
  clear b7
  obtain ⟨A2, c2, rfl⟩ := r2.form8 _ rfl
  go_wp2_with fail
  with_reducible refine (re_ (refSame_calls _ _ _ _ _ _ os os _ r1 r2) (ret_bool (decide_eq_true rfl))).mono ?_
  rintro e w8 ⟨rfl, b8⟩
  replace r1 := r1.below b8
  replace r2 := r2.below b8
  replace D := below_call D b8
  clear b8
  clear r1 r2
  go_wp2_with fail
  with_reducible refine (Sees8_is n c A l _ (hl.below D) p q b HB).mono ?_
  rintro e w9 ⟨rfl, b9⟩
  replace D := below_call D b9
  clear b9
  go_wp2_with fail
  with_reducible refine (refSees8_is n c A l _ (hl.below D) p q b HB).mono ?_
  rintro e w10 ⟨rfl, b10⟩
  replace D := below_call D b10
  clear b10
  go_wp2_with fail
  with_reducible refine (Watch8_is n c A l _ (hl.below D) p ws hn HW).mono ?_
  rintro e w11 ⟨v1, rfl, r1, b11⟩
  replace D := below_call D b11
  clear b11
  obtain ⟨A1, c1, rfl⟩ := r1.form8 _ rfl
  go_wp2_with fail
  with_reducible refine (refWatch8_is n c A l _ (hl.below D) p ws hn HW).mono ?_
  rintro e w12 ⟨v2, rfl, r2, b12⟩
  replace r1 := r1.below b12
  replace D := below_call D b12
  clear b12
  obtain ⟨A2, c2, rfl⟩ := r2.form8 _ rfl
  go_wp2_with fail
  with_reducible refine (re_ (refSame_calls _ _ _ _ _ _ ws ws _ r1 r2) (ret_bool (decide_eq_true rfl))).mono ?_
  rintro e w13 ⟨rfl, b13⟩
  replace r1 := r1.below b13
  replace r2 := r2.below b13
  replace D := below_call D b13
  clear b13
  clear r1 r2
  go_wp2_with fail
  with_reducible refine (live08 _).mono ?_
  rintro e w14 ⟨rfl, b14⟩
  replace D := below_call D b14
  clear b14
  go_wp2
  go_ret
  exact ⟨rfl, D⟩
end Go.Proofs.Ytpmafghknafhaaa
