/-
Layer 9: the walks of SessTells and SessPuts.
-/
import Derived.Test.YtcopiimflloooaaSesL
set_option linter.unusedVariables false
set_option linter.unusedSimpArgs false
namespace Go.Proofs.Ytcopiimflloooaa
open Go.RowKit
open Sp
abbrev SzS (l : List Se) : Prop := ∀ s ∈ l, s.u.size ≤ 9223372036854775807 ∧ s.v.2.2.2.size ≤ 9223372036854775807
set_option maxHeartbeats 16000000 in
set_option maxRecDepth 100000 in
theorem tells9_walk (n c : Nat) (A : Option Addr) (l : List Se) (q : ByteArray) (w : World) (hl : Row enSe 6 w (.slice A n c) l) (hz : SzS l) (hq : q.size ≤ 9223372036854775807) :
    Calls Try.prog 3 #[.slice A n c, .string q] w fun e w' => e = .returned (.bool true) ∧ Below w.heap.size w w' := by
  have EA := Lib.hid hl.len_eq
  cases h : fewSe l with
  | false =>
    have H := Lib.hid h
    clear h
    have D := Below.refl w.heap.size w
    go_enter Try.func3, Try.ntmps3
    go_wp2_with fail
    with_reducible refine (few9_is n c A l _ hl false hz H).mono ?_
    rintro e w1 ⟨rfl, b1⟩
    replace D := below_call D b1
    clear b1
    go_wp2_with fail
    with_reducible refine (live09 _).mono ?_
    rintro e w2 ⟨rfl, b2⟩
    replace D := below_call D b2
    clear b2
    go_wp2
    go_ret
    exact ⟨rfl, D⟩
  | true =>
  obtain ⟨hs, h50⟩ := few_sz h
  have hn : n ≤ 100000 := by have := EA.out; omega
  have H := Lib.hid h
  clear h h50
  by_cases hqs : (40 : Int) < (q.size : Int)
  · have D := Below.refl w.heap.size w
    go_enter Try.func3, Try.ntmps3
    go_wp2_with fail
    with_reducible refine (few9_is n c A l _ hl true hz H).mono ?_
    rintro e w1 ⟨rfl, b1⟩
    replace D := below_call D b1
    clear b1
    go_wp2_with fail
    with_reducible refine (live09 _).mono ?_
    rintro e w2 ⟨rfl, b2⟩
    replace D := below_call D b2
    clear b2
    go_wp2
    go_ret
    exact ⟨rfl, D⟩
  · have hqs' : (q.size : Int) ≤ 40 := by omega
    clear hqs
    have D := Below.refl w.heap.size w
    obtain ⟨b, hb⟩ : ∃ b, maySe l = b := ⟨_, rfl⟩
    obtain ⟨r, hr⟩ : ∃ r, ofSe l q = r := ⟨_, rfl⟩
    obtain ⟨us, hus⟩ : ∃ r, usersSe l = r := ⟨_, rfl⟩
    have HB := Lib.hid hb
    have HR := Lib.hid hr
    have HU := Lib.hid hus
    clear hb hr hus
    go_enter Try.func3, Try.ntmps3
    go_wp2_with fail
    with_reducible refine (few9_is n c A l _ hl true hz H).mono ?_
    rintro e w1 ⟨rfl, b1⟩
    replace D := below_call D b1
    clear b1
    go_wp2_with fail
    with_reducible refine (May9_is n c A l _ (hl.below D) b hs HB).mono ?_
    rintro e w2 ⟨rfl, b2⟩
    replace D := below_call D b2
    clear b2
    go_wp2_with fail
    with_reducible refine (refMay9_is n c A l _ (hl.below D) b hs HB).mono ?_
    rintro e w3 ⟨rfl, b3⟩
    replace D := below_call D b3
    clear b3
    go_wp2_with fail
    with_reducible refine (Of9_is n c A l _ (hl.below D) q r hn HR).mono ?_
    rintro e w4 ⟨v1, rfl, r1, b4⟩
    replace D := below_call D b4
    clear b4
    obtain ⟨A1, c1, rfl⟩ := r1.form _ rfl
    go_wp2_with fail
    with_reducible refine (refOf9_is n c A l _ (hl.below D) q r hn HR).mono ?_
    rintro e w5 ⟨v2, rfl, r2, b5⟩
    replace r1 := r1.below b5
    replace D := below_call D b5
    clear b5
    obtain ⟨A2, c2, rfl⟩ := r2.form _ rfl
    go_wp2_with fail
    with_reducible refine (re_ (sameSe _ _ _ _ _ _ r r _ r1 r2) (ret_bool (decide_eq_true rfl))).mono ?_
    rintro e w6 ⟨rfl, b6⟩
    replace r1 := r1.below b6
    replace r2 := r2.below b6
    replace D := below_call D b6
    clear b6
    clear r1 r2
    go_wp2_with fail
    with_reducible refine (Users9_is n c A l _ (hl.below D) us hn HU).mono ?_
    rintro e w7 ⟨v1, rfl, r1, b7⟩
    replace D := below_call D b7
    clear b7
    obtain ⟨A1, c1, rfl⟩ := r1.form _ rfl
    go_wp2_with fail
    with_reducible refine (refUsers9_is n c A l _ (hl.below D) us hn HU).mono ?_
    rintro e w8 ⟨v2, rfl, r2, b8⟩
    replace r1 := r1.below b8
    replace D := below_call D b8
    clear b8
    obtain ⟨A2, c2, rfl⟩ := r2.form _ rfl
    go_wp2_with fail
    with_reducible refine (re_ (refSame_calls _ _ _ _ _ _ us us _ r1 r2) (ret_bool (decide_eq_true rfl))).mono ?_
    rintro e w9 ⟨rfl, b9⟩
    replace r1 := r1.below b9
    replace r2 := r2.below b9
    replace D := below_call D b9
    clear b9
    clear r1 r2
    go_wp2_with fail
    with_reducible refine (live09 _).mono ?_
    rintro e w10 ⟨rfl, b10⟩
    replace D := below_call D b10
    clear b10
    go_wp2
    go_ret
    exact ⟨rfl, D⟩
set_option maxHeartbeats 16000000 in
set_option maxRecDepth 100000 in
theorem puts9_walk (n c : Nat) (A : Option Addr) (l : List Se) (s : Se) (w : World) (hl : Row enSe 6 w (.slice A n c) l) (hz : SzS l) (hq : s.u.size ≤ 9223372036854775807 ∧ s.v.2.2.2.size ≤ 9223372036854775807) :
    Calls Try.prog 4 #[.slice A n c, vaSe s] w fun e w' => e = .returned (.bool true) ∧ Below w.heap.size w w' := by
  obtain ⟨u, i_, a, p, n_, t⟩ := s
  simp only at hq
  have EA := Lib.hid hl.len_eq
  have D := below_box (w := w) (bxSe u i_ a p n_ t)
  have hb := heap_alloc_new w (bxSe u i_ a p n_ t)
  have hz1 : SzS [⟨u, i_, a, p, n_, t⟩] := fun s hs => by rw [List.mem_singleton.1 hs]; exact hq
  cases h : fewSe l with
  | false =>
    have H := Lib.hid h
    clear h
    go_enter Try.func4, Try.ntmps4
    go_wp2_with fail
    with_reducible refine (few9_is n c A l _ (hl.below D) false hz H).mono ?_
    rintro e w1 ⟨rfl, b1⟩
    replace hb := hcall hb b1
    replace D := below_call D b1
    clear b1
    go_wp2_with fail
    with_reducible refine (live09 _).mono ?_
    rintro e w2 ⟨rfl, b2⟩
    replace hb := hcall hb b2
    replace D := below_call D b2
    clear b2
    go_wp2
    go_ret
    exact ⟨rfl, D⟩
  | true =>
  obtain ⟨hs, h50⟩ := few_sz h
  have hn : n ≤ 100000 := by have := EA.out; omega
  have H := Lib.hid h
  clear h h50
  cases h : fewSe [⟨u, i_, a, p, n_, t⟩] with
  | false =>
    have H2 := Lib.hid h
    clear h
    go_enter Try.func4, Try.ntmps4
    go_wp2_with fail
    with_reducible refine (few9_is n c A l _ (hl.below D) true hz H).mono ?_
    rintro e w1 ⟨rfl, b1⟩
    replace hb := hcall hb b1
    replace D := below_call D b1
    clear b1
    obtain ⟨s0, s1, s2, s3, s4, s5, sz⟩ := cellsSe u i_ a p n_ t hb
    have r1 := (Own.lit (e := 34) (base := 0) enSe_len w1 [⟨u, i_, a, p, n_, t⟩] #[.string u, .int .i64 i_, .int .i64 a, .int .i64 p, .int .i64 n_, .string t] 1 rfl rfl (Nat.zero_le _) (by omega)).row
    replace hb := halloc hb (bxSe u i_ a p n_ t)
    replace D := below_alloc0 D (bxSe u i_ a p n_ t)
    go_wp2_with fail
    with_reducible refine (few9_is 1 1 _ [⟨u, i_, a, p, n_, t⟩] _ r1 false hz1 H2).mono ?_
    rintro e w2 ⟨rfl, b2⟩
    replace hb := hcall hb b2
    replace D := below_call D b2
    clear b2 s0 s1 s2 s3 s4 s5 sz
    clear r1
    go_wp2_with fail
    with_reducible refine (live09 _).mono ?_
    rintro e w3 ⟨rfl, b3⟩
    replace hb := hcall hb b3
    replace D := below_call D b3
    clear b3
    go_wp2
    go_ret
    exact ⟨rfl, D⟩
  | true =>
    obtain ⟨hs1, _⟩ := few_sz h
    obtain ⟨hu, ht⟩ := hs1 _ (List.mem_singleton.2 rfl)
    simp only at hu ht
    have H2 := Lib.hid h
    clear h
    obtain ⟨r, er, hr⟩ : ∃ r er, putSe l ⟨u, i_, a, p, n_, t⟩ = (r, er) := ⟨_, _, rfl⟩
    obtain ⟨y, ey, hy⟩ : ∃ r er, dropSe l (u, i_) = (r, er) := ⟨_, _, rfl⟩
    have HR := Lib.hid hr
    have HY := Lib.hid hy
    clear hr hy
    go_enter Try.func4, Try.ntmps4
    go_wp2_with fail
    with_reducible refine (few9_is n c A l _ (hl.below D) true hz H).mono ?_
    rintro e w1 ⟨rfl, b1⟩
    replace hb := hcall hb b1
    replace D := below_call D b1
    clear b1
    obtain ⟨s0, s1, s2, s3, s4, s5, sz⟩ := cellsSe u i_ a p n_ t hb
    have r1 := (Own.lit (e := 34) (base := 0) enSe_len w1 [⟨u, i_, a, p, n_, t⟩] #[.string u, .int .i64 i_, .int .i64 a, .int .i64 p, .int .i64 n_, .string t] 1 rfl rfl (Nat.zero_le _) (by omega)).row
    replace hb := halloc hb (bxSe u i_ a p n_ t)
    replace D := below_alloc0 D (bxSe u i_ a p n_ t)
    go_wp2_with fail
    with_reducible refine (few9_is 1 1 _ [⟨u, i_, a, p, n_, t⟩] _ r1 true hz1 H2).mono ?_
    rintro e w2 ⟨rfl, b2⟩
    replace hb := hcall hb b2
    replace D := below_call D b2
    clear b2 s0 s1 s2 s3 s4 s5 sz
    clear r1
    obtain ⟨s0, s1, s2, s3, s4, s5, sz⟩ := cellsSe u i_ a p n_ t hb
    go_wp2_with fail
    with_reducible refine (Put9_is n c A l _ (hl.below D) u i_ a p n_ t r er hs hu ht HR).mono ?_
    rintro e w3 ⟨v1, rfl, r1, b3⟩
    replace hb := hcall hb b3
    replace D := below_call D b3
    clear b3 s0 s1 s2 s3 s4 s5 sz
    obtain ⟨A1, c1, rfl⟩ := r1.form _ rfl
    obtain ⟨s0, s1, s2, s3, s4, s5, sz⟩ := cellsSe u i_ a p n_ t hb
    go_wp2_with fail
    with_reducible refine (refPut9_is n c A l _ (hl.below D) u i_ a p n_ t r er hs hu ht HR).mono ?_
    rintro e w4 ⟨v2, rfl, r2, b4⟩
    replace hb := hcall hb b4
    replace r1 := r1.below b4
    replace D := below_call D b4
    clear b4 s0 s1 s2 s3 s4 s5 sz
    obtain ⟨A2, c2, rfl⟩ := r2.form _ rfl
    obtain ⟨s0, s1, s2, s3, s4, s5, sz⟩ := cellsSe u i_ a p n_ t hb
    go_wp2_with fail
    with_reducible refine (Drop9_is n c A l _ (hl.below D) u i_ y ey hs HY).mono ?_
    rintro e w5 ⟨v3, rfl, r3, b5⟩
    replace hb := hcall hb b5
    replace r1 := r1.below b5
    replace r2 := r2.below b5
    replace D := below_call D b5
    clear b5 s0 s1 s2 s3 s4 s5 sz
    obtain ⟨A3, c3, rfl⟩ := r3.form _ rfl
    obtain ⟨s0, s1, s2, s3, s4, s5, sz⟩ := cellsSe u i_ a p n_ t hb
    go_wp2_with fail
    with_reducible refine (refDrop9_is n c A l _ (hl.below D) u i_ y ey hs HY).mono ?_
    rintro e w6 ⟨v4, rfl, r4, b6⟩
    replace hb := hcall hb b6
    replace r1 := r1.below b6
    replace r2 := r2.below b6
    replace r3 := r3.below b6
    replace D := below_call D b6
    clear b6 s0 s1 s2 s3 s4 s5 sz
    obtain ⟨A4, c4, rfl⟩ := r4.form _ rfl
    go_wp2_with fail
    with_reducible refine (re_ (sameSe _ _ _ _ _ _ r r _ r1 r2) (ret_bool (decide_eq_true rfl))).mono ?_
    rintro e w7 ⟨rfl, b7⟩
    replace hb := hcall hb b7
    replace r1 := r1.below b7
    replace r2 := r2.below b7
    replace r3 := r3.below b7
    replace r4 := r4.below b7
    replace D := below_call D b7
    clear b7
    clear r1 r2
    go_wp2_with fail
    with_reducible refine (re_ (sameSe _ _ _ _ _ _ y y _ r3 r4) (ret_bool (decide_eq_true rfl))).mono ?_
    rintro e w8 ⟨rfl, b8⟩
    replace hb := hcall hb b8
    replace r3 := r3.below b8
    replace r4 := r4.below b8
    replace D := below_call D b8
    clear b8
    clear r3 r4
    go_wp2_with fail
    with_reducible refine (live09 _).mono ?_
    rintro e w9 ⟨rfl, b9⟩
    replace hb := hcall hb b9
    replace D := below_call D b9
    clear b9
    go_wp2
    go_ret
    exact ⟨rfl, D⟩
end Go.Proofs.Ytcopiimflloooaa
