/-
Layer 9: the walk of SessAll.
-/
import Derived.Test.YtcopiimflloooaaSesN
import Derived.BigQuiet
set_option linter.unusedVariables false
set_option linter.unusedSimpArgs false
namespace Go.Proofs.Ytcopiimflloooaa
open Go.RowKit
open Sp
theorem sorted9 (l : List ByteArray) (h : Sorted l) (i : Nat) (h0 : i < l.length) (h1 : i + 1 < l.length) : less l[i] l[i + 1] = true :=
  List.pairwise_iff_getElem.1 h i (i + 1) h0 h1 (by omega)
theorem quiet_l {P : Program} {f : FuncId} {args : Array Value} {w : World} {n : Nat} {v : Value}
    (h : Calls P f args (w.drewN n) fun e w' => e = .returned v ∧ w.drewN n = w') : Calls P f args (w.drewN n) fun e w'' => e = .returned v ∧ ∃ m, w'' = w.drewN m :=
  h.mono fun _ _ ⟨he, hm⟩ => ⟨he, n, hm.symm⟩
theorem quiet_al {P : Program} {f : FuncId} {args : Array Value} {w : World} {a n : Nat} {v : Value}
    (h : Calls P f args (w.drewN (a + n)) fun e w' => e = .returned v ∧ w.drewN (a + n) = w') :
    Calls P f args (w.drewN (a + n)) fun e w'' => e = .returned v ∧ ∃ m, w'' = w.drewN (a + m) :=
  h.mono fun _ _ ⟨he, hm⟩ => ⟨he, n, hm.symm⟩
set_option maxHeartbeats 16000000 in
set_option maxRecDepth 100000 in
theorem all9_walk (n c : Nat) (A : Option Addr) (l : List Se) (w : World) (hl : Row enSe 6 w (.slice A n c) l) (hz : SzS l) :
    Calls Try.prog 6 #[.slice A n c] w fun e w' => e = .returned (.bool true) ∧ Below w.heap.size w w' := by
  have EA := Lib.hid hl.len_eq
  have D := Below.refl w.heap.size w
  cases h : fewSe l with
  | false =>
    have H := Lib.hid h
    clear h
    go_enter Try.func6, Try.ntmps6
    go_wp2_with fail
    with_reducible refine (few9_is n c A l _ (hl.below D) false hz H).mono ?_
    rintro e w1 ⟨rfl, b1⟩
    replace D := below_call D b1
    clear b1
    go_wp2_with fail
    with_reducible refine (live09 _).mono ?_
    rintro e w2 ⟨rfl, b2⟩
    replace D := below_call D b2
    clear b2
    go_wp2
    go_ret
    exact ⟨rfl, D⟩
  | true =>
  obtain ⟨hs, h50⟩ := few_sz h
  have hn : n ≤ 100000 := by have := EA.out; omega
  have H := Lib.hid h
  clear h h50
  cases h : maySe l with
  | false =>
    have HM := Lib.hid h
    clear h
    go_enter Try.func6, Try.ntmps6
    go_wp2_with fail
    with_reducible refine (few9_is n c A l _ (hl.below D) true hz H).mono ?_
    rintro e w1 ⟨rfl, b1⟩
    replace D := below_call D b1
    clear b1
    go_wp2_with fail
    with_reducible refine (refMay9_is n c A l _ (hl.below D) false hs HM).mono ?_
    rintro e w2 ⟨rfl, b2⟩
    replace D := below_call D b2
    clear b2
    go_wp2_with fail
    with_reducible refine (live09 _).mono ?_
    rintro e w3 ⟨rfl, b3⟩
    replace D := below_call D b3
    clear b3
    go_wp2
    go_ret
    exact ⟨rfl, D⟩
  | true =>
  have h32 := ((maySe_iff l).1 h).1
  have hall := all_plain h
  have hol : ∀ u ∈ usersSe l, 1 ≤ (ofSe l u).length ∧ (ofSe l u).length ≤ 4 := fun u hu => of_len h hu
  have hso := users_sorted l
  have HM := Lib.hid h
  clear h
  obtain ⟨us, hus⟩ : ∃ r, usersSe l = r := ⟨_, rfl⟩
  rw [hus] at hall hol hso
  have hpre : ∀ k, ((us.take k).flatMap (ofSe l)).length ≤ 32 := fun k => by
    have e : (us.take k ++ us.drop k).flatMap (ofSe l) = l := by rw [List.take_append_drop]; exact hall
    rw [List.flatMap_append] at e
    have := congrArg List.length e
    rw [List.length_append] at this
    omega
  have HU := Lib.hid hus
  have HALL := Lib.hid hall
  have HOL := Lib.hid hol
  have HSO := Lib.hid hso
  have HPRE := Lib.hid hpre
  clear hus hall hol hso hpre h32
  go_enter Try.func6, Try.ntmps6
  go_wp2_with fail
  with_reducible refine (few9_is n c A l _ (hl.below D) true hz H).mono ?_
  rintro e w1 ⟨rfl, b1⟩
  replace D := below_call D b1
  clear b1
  go_wp2_with fail
  with_reducible refine (refMay9_is n c A l _ (hl.below D) true hs HM).mono ?_
  rintro e w2 ⟨rfl, b2⟩
  replace D := below_call D b2
  clear b2
  go_wp2_with fail
  with_reducible refine (Users9_is n c A l _ (hl.below D) us hn HU).mono ?_
  rintro e w3 ⟨v3, rfl, r3, b3⟩
  replace D := below_call D b3
  clear b3
  obtain ⟨A3, c3, rfl⟩ := r3.form _ rfl
  have hul := r3.len
  go_wp2
  go_loopw [3, 5] (fun vo vc wr => ∃ (i : Nat) (ys : List Se), vc = .int .i64 i ∧ i ≤ us.length ∧ Hid ((us.take i).flatMap (ofSe l) = ys) ∧ Own enSe 6 34 wr w3.heap.size vo ys ∧ Below w3.heap.size w3 wr) (fun _ vc _ => (us.length - intOf vc).toNat)
  case atStart => exact ⟨0, [], rfl, Nat.zero_le _, rfl, Own.nil _ _ _ _ _, Below.refl _ _⟩
  case round =>
    obtain ⟨i, ys, rfl, hi, HT, hO, hB⟩ := hrel
    by_cases hlt : i < us.length
    · obtain ⟨ad, rfl, hc⟩ := (r3.below hB).get1 (f := Value.string) i hlt
      obtain ⟨hk1, hk4⟩ := HOL.out us[i] (List.getElem_mem _)
      obtain ⟨r, hr⟩ : ∃ r, ofSe l us[i] = r := ⟨_, rfl⟩
      have HT2 : Hid ((us.take (i + 1)).flatMap (ofSe l) = ys ++ r) := by
        show _ = _
        rw [List.take_succ_eq_append_getElem hlt, List.flatMap_append, HT.out, List.flatMap_cons, List.flatMap_nil, List.append_nil, hr]
      have hy32 : (ys ++ r).length ≤ 32 := by rw [← HT2.out]; exact HPRE.out _
      rw [List.length_append] at hy32
      rw [hr] at hk1 hk4
      obtain ⟨k, hk⟩ : ∃ k, r.length = k := ⟨_, rfl⟩
      rw [hk] at hk1 hk4 hy32
      have g1 : decide ((k : Int) < 1) = false := decide_eq_false (by omega)
      have g2 : decide ((4 : Int) < (k : Int)) = false := decide_eq_false (by omega)
      have g3 : decide (4 < k) = false := decide_eq_false (by omega)
      have g4 : decide (k < 1) = false := decide_eq_false (by omega)
      have HK := Lib.hid hk
      have x1 : (0 : Int) ≤ (i : Int) := by omega
      have x2 : (i : Int) < (us.length : Int) := by omega
      by_cases hj0 : i = 0
      · have hg : decide (0 < i) = false := decide_eq_false (by omega)
        have hg2 : decide (0 < (i : Int)) = false := decide_eq_false (by omega)
        clear hj0
        generalize us[i] = u at hc hr
        have HR := Lib.hid hr
        clear hr hk
        go_wp2_with fail
        with_reducible refine (Of9_is n c A l _ (hl.below (below_call D hB)) u r hn HR).mono ?_
        rintro e w4 ⟨v4, rfl, rr, b4⟩
        obtain ⟨A4, c4, rfl⟩ := rr.form k HK.out
        replace hB := below_call hB b4
        replace hO := hO.below b4
        replace hc := cell_below b4 hc
        clear b4
        go_wp2_with fail
        go_quiet (fail)
        have hB2 : Below w3.heap.size w3 (w4.drewN nq) := below_drewN hB _
        have hO2 : Own enSe 6 34 (w4.drewN nq) w3.heap.size _ ys := hO.drewN _
        have rr2 : Row enSe 6 (w4.drewN nq) (.slice A4 k c4) r := rr.drewN _
        clear hB hO rr hc
        go_wp2_with (at_builtin; refine Own.appendRow (w0 := w3) w3.heap.size rfl (.tmp 55) (.tmp 56) 22 34 zvSe 6 64 rfl Try.underlying22 infoSe rfl (by decide) _ (.slice A4 k c4) ys r rfl rfl enSe_one hO2 rr2 hB2 hB2.size (by rw [HK.out]; omega) (by rw [HK.out]; omega) ?_; intro v5 w5 hO5 hB5 _ _)
        exact ⟨⟨i + 1, ys ++ r, by go_num, by omega, HT2, hO5, hB5⟩, by simp [intOf]; omega⟩
      · have hg : 0 < i := by omega
        have hg3 : 0 < (i : Int) := by omega
        have hg4 : decide (0 < i) = true := decide_eq_true hg
        have hg5 : decide (0 < (i : Int)) = true := decide_eq_true hg3
        obtain ⟨q, hq⟩ : ∃ q, q = i - 1 := ⟨_, rfl⟩
        have hql : q < us.length := by omega
        have hqj : q + 1 < us.length := by omega
        have hles := sorted9 us HSO.out q hql hqj
        obtain ⟨ad2, had2, hc2⟩ := (r3.below hB).get1 (f := Value.string) q hql
        obtain rfl : ad = ad2 := by injection had2
        clear had2
        have hqe : us[q + 1] = us[i] := by congr 1; omega
        rw [hqe] at hles
        clear hqe
        have HL : Hid (less us[q] us[i] = true) := hles
        clear hles
        have hw : IntKind.i64.wrap ((i : Int) - 1) = ((q : Nat) : Int) := by
          have : (i : Int) - 1 = (q : Int) := by omega
          rw [this]
          rw [IntKind.wrap_i64]; omega
        have x3 : (0 : Int) ≤ (q : Int) := by omega
        have x4 : (q : Int) < (us.length : Int) := by omega
        have HQ := Lib.hid hq
        clear hq hj0
        generalize us[i] = u at hc hr HL
        generalize us[q] = t at hc2 HL
        have HR := Lib.hid hr
        clear hr hk
        go_wp2_with fail
        with_reducible refine (Of9_is n c A l _ (hl.below (below_call D hB)) u r hn HR).mono ?_
        rintro e w4 ⟨v4, rfl, rr, b4⟩
        obtain ⟨A4, c4, rfl⟩ := rr.form k HK.out
        replace hB := below_call hB b4
        replace hO := hO.below b4
        replace hc := cell_below b4 hc
        replace hc2 := cell_below b4 hc2
        clear b4
        go_wp2_with fail
        go_quiet ((go_at_call 29; first | exact quiet_l (refLess_is _ t u true HL) | exact quiet_al (refLess_is _ t u true HL)))
        clear hc2
        have hB2 : Below w3.heap.size w3 (w4.drewN nq) := below_drewN hB _
        have hO2 : Own enSe 6 34 (w4.drewN nq) w3.heap.size _ ys := hO.drewN _
        have rr2 : Row enSe 6 (w4.drewN nq) (.slice A4 k c4) r := rr.drewN _
        clear hB hO rr hc
        go_wp2_with (at_builtin; refine Own.appendRow (w0 := w3) w3.heap.size rfl (.tmp 55) (.tmp 56) 22 34 zvSe 6 64 rfl Try.underlying22 infoSe rfl (by decide) _ (.slice A4 k c4) ys r rfl rfl enSe_one hO2 rr2 hB2 hB2.size (by rw [HK.out]; omega) (by rw [HK.out]; omega) ?_; intro v5 w5 hO5 hB5 _ _)
        exact ⟨⟨i + 1, ys ++ r, by go_num, by omega, HT2, hO5, hB5⟩, by simp [intOf]; omega⟩
    · obtain rfl : i = us.length := by omega
      have hyl : l = ys := by
        have := HT.out
        rw [List.take_of_length_le (Nat.le_refl _), HALL.out] at this
        exact this
      subst hyl
      have r4 := hO.row
      obtain ⟨A4, c4, rfl, _⟩ := hO.slice
      replace D := below_call D hB
      clear hO HT hB hlt hi
      go_wp2_with fail
      with_reducible refine (re_ (sameSe _ _ _ _ _ _ l l _ r4 (hl.below D)) (ret_bool (decide_eq_true rfl))).mono ?_
      rintro e w4 ⟨rfl, b4⟩
      replace D := below_call D b4
      clear b4
      clear r4
      go_wp2_with fail
      with_reducible refine (May9_is n c A l _ (hl.below D) true hs HM).mono ?_
      rintro e w5 ⟨rfl, b5⟩
      replace D := below_call D b5
      clear b5
      go_wp2_with fail
      with_reducible refine (live09 _).mono ?_
      rintro e w6 ⟨rfl, b6⟩
      replace D := below_call D b6
      clear b6
      go_wp2
      go_ret
      exact ⟨rfl, D⟩
end Go.Proofs.Ytcopiimflloooaa
