/-
Layer 9: the walk of SessTwo.
-/
import Derived.Test.YtcopiimflloooaaSesM
set_option linter.unusedVariables false
set_option linter.unusedSimpArgs false
namespace Go.Proofs.Ytcopiimflloooaa
open Go.RowKit
open Sp
theorem mayV_sz {a p n : Int} {t : ByteArray} (h : mayV a p n t = true) : t.size ≤ 32 := by
  unfold mayV at h
  simp only [Bool.and_eq_true, decide_eq_true_eq] at h
  omega
theorem maySe_sz {l : List Se} (h : maySe l = true) : SzSe l := fun s hs => by
  have h2 := ((maySe_iff l).1 h).2.1 s hs
  unfold oneS at h2
  simp only [Bool.and_eq_true] at h2
  have := (name_le _ h2.1).2
  have := mayV_sz h2.2.2.2
  omega
set_option maxHeartbeats 16000000 in
set_option maxRecDepth 100000 in
theorem two9_walk (n c : Nat) (A : Option Addr) (l : List Se) (s r : Se) (w : World) (hl : Row enSe 6 w (.slice A n c) l) (hz : SzS l) (hqa : s.u.size ≤ 9223372036854775807 ∧ s.v.2.2.2.size ≤ 9223372036854775807) (hqb : r.u.size ≤ 9223372036854775807 ∧ r.v.2.2.2.size ≤ 9223372036854775807) :
    Calls Try.prog 7 #[.slice A n c, vaSe s, vaSe r] w fun e w' => e = .returned (.bool true) ∧ Below w.heap.size w w' := by
  obtain ⟨ua, ia, aa, pa, ma, ta⟩ := s
  obtain ⟨ub, ib, ab, pb, mb, tb⟩ := r
  simp only at hqa hqb
  have EA := Lib.hid hl.len_eq
  have D := below_alloc0 (below_box (w := w) (bxSe ua ia aa pa ma ta)) (bxSe ub ib ab pb mb tb)
  have ha := halloc (heap_alloc_new w (bxSe ua ia aa pa ma ta)) (bxSe ub ib ab pb mb tb)
  have hb := heap_alloc_new (w.alloc (bxSe ua ia aa pa ma ta)) (bxSe ub ib ab pb mb tb)
  rw [size_alloc] at hb
  have hz1 : SzS [⟨ua, ia, aa, pa, ma, ta⟩, ⟨ub, ib, ab, pb, mb, tb⟩] := fun s hs => by
    rcases List.mem_cons.1 hs with rfl | hs
    · exact hqa
    · rw [List.mem_singleton.1 hs]; exact hqb
  by_cases h30 : (30 : Int) < (n : Int)
  · clear EA hz hz1 hqa hqb
    go_enter Try.func7, Try.ntmps7
    go_wp2_with fail
    with_reducible refine (live09 _).mono ?_
    rintro e w1 ⟨rfl, b1⟩
    replace ha := hcall ha b1
    replace hb := hcall hb b1
    replace D := below_call D b1
    clear b1
    go_wp2
    go_ret
    exact ⟨rfl, D⟩
  cases h : fewSe l with
  | false =>
    have H := Lib.hid h
    clear h
    go_enter Try.func7, Try.ntmps7
    go_wp2_with fail
    with_reducible refine (few9_is n c A l _ (hl.below D) false hz H).mono ?_
    rintro e w1 ⟨rfl, b1⟩
    replace ha := hcall ha b1
    replace hb := hcall hb b1
    replace D := below_call D b1
    clear b1
    go_wp2_with fail
    with_reducible refine (live09 _).mono ?_
    rintro e w2 ⟨rfl, b2⟩
    replace ha := hcall ha b2
    replace hb := hcall hb b2
    replace D := below_call D b2
    clear b2
    go_wp2
    go_ret
    exact ⟨rfl, D⟩
  | true =>
  obtain ⟨hs, h50⟩ := few_sz h
  have H := Lib.hid h
  clear h h50
  cases h : maySe l with
  | false =>
    have HM := Lib.hid h
    clear h
    go_enter Try.func7, Try.ntmps7
    go_wp2_with fail
    with_reducible refine (few9_is n c A l _ (hl.below D) true hz H).mono ?_
    rintro e w1 ⟨rfl, b1⟩
    replace ha := hcall ha b1
    replace hb := hcall hb b1
    replace D := below_call D b1
    clear b1
    go_wp2_with fail
    with_reducible refine (refMay9_is n c A l _ (hl.below D) false hs HM).mono ?_
    rintro e w2 ⟨rfl, b2⟩
    replace ha := hcall ha b2
    replace hb := hcall hb b2
    replace D := below_call D b2
    clear b2
    go_wp2_with fail
    with_reducible refine (live09 _).mono ?_
    rintro e w3 ⟨rfl, b3⟩
    replace ha := hcall ha b3
    replace hb := hcall hb b3
    replace D := below_call D b3
    clear b3
    go_wp2
    go_ret
    exact ⟨rfl, D⟩
  | true =>
  have hlm : l.length ≤ 30 := by have := EA.out; omega
  have hm := Lib.hid h
  have HM := Lib.hid h
  clear h
  cases h : fewSe [⟨ua, ia, aa, pa, ma, ta⟩, ⟨ub, ib, ab, pb, mb, tb⟩] with
  | false =>
    have H2 := Lib.hid h
    clear h
    go_enter Try.func7, Try.ntmps7
    go_wp2_with fail
    with_reducible refine (few9_is n c A l _ (hl.below D) true hz H).mono ?_
    rintro e w1 ⟨rfl, b1⟩
    replace ha := hcall ha b1
    replace hb := hcall hb b1
    replace D := below_call D b1
    clear b1
    go_wp2_with fail
    with_reducible refine (refMay9_is n c A l _ (hl.below D) true hs HM).mono ?_
    rintro e w2 ⟨rfl, b2⟩
    replace ha := hcall ha b2
    replace hb := hcall hb b2
    replace D := below_call D b2
    clear b2
    obtain ⟨ka0, ka1, ka2, ka3, ka4, ka5, kaz⟩ := cellsSe ua ia aa pa ma ta ha
    obtain ⟨kb0, kb1, kb2, kb3, kb4, kb5, kbz⟩ := cellsSe ub ib ab pb mb tb hb
    have r1 := (Own.lit (e := 34) (base := 0) enSe_len w2 [⟨ua, ia, aa, pa, ma, ta⟩, ⟨ub, ib, ab, pb, mb, tb⟩] #[.string ua, .int .i64 ia, .int .i64 aa, .int .i64 pa, .int .i64 ma, .string ta, .string ub, .int .i64 ib, .int .i64 ab, .int .i64 pb, .int .i64 mb, .string tb] 2 rfl rfl (Nat.zero_le _) (by omega)).row
    replace ha := halloc ha (.cells #[.string ua, .int .i64 ia, .int .i64 aa, .int .i64 pa, .int .i64 ma, .string ta, .string ub, .int .i64 ib, .int .i64 ab, .int .i64 pb, .int .i64 mb, .string tb] 34)
    replace hb := halloc hb (.cells #[.string ua, .int .i64 ia, .int .i64 aa, .int .i64 pa, .int .i64 ma, .string ta, .string ub, .int .i64 ib, .int .i64 ab, .int .i64 pb, .int .i64 mb, .string tb] 34)
    replace D := below_alloc0 D (.cells #[.string ua, .int .i64 ia, .int .i64 aa, .int .i64 pa, .int .i64 ma, .string ta, .string ub, .int .i64 ib, .int .i64 ab, .int .i64 pb, .int .i64 mb, .string tb] 34)
    go_wp2_with fail
    with_reducible refine (few9_is 2 2 _ [⟨ua, ia, aa, pa, ma, ta⟩, ⟨ub, ib, ab, pb, mb, tb⟩] _ r1 false hz1 H2).mono ?_
    rintro e w3 ⟨rfl, b3⟩
    replace ha := hcall ha b3
    replace hb := hcall hb b3
    replace D := below_call D b3
    clear b3 ka0 ka1 ka2 ka3 ka4 ka5 kaz kb0 kb1 kb2 kb3 kb4 kb5 kbz
    clear r1
    go_wp2_with fail
    with_reducible refine (live09 _).mono ?_
    rintro e w4 ⟨rfl, b4⟩
    replace ha := hcall ha b4
    replace hb := hcall hb b4
    replace D := below_call D b4
    clear b4
    go_wp2
    go_ret
    exact ⟨rfl, D⟩
  | true =>
  obtain ⟨hs1, _⟩ := few_sz h
  obtain ⟨hua, hta⟩ := hs1 ⟨ua, ia, aa, pa, ma, ta⟩ (by simp)
  obtain ⟨hub, htb⟩ := hs1 ⟨ub, ib, ab, pb, mb, tb⟩ (by simp)
  simp only at hua hta hub htb
  have H2 := Lib.hid h
  clear h hs1
  cases h : oneS ⟨ua, ia, aa, pa, ma, ta⟩ with
  | false =>
    have Ha := Lib.hid h
    clear h
    go_enter Try.func7, Try.ntmps7
    go_wp2_with fail
    with_reducible refine (few9_is n c A l _ (hl.below D) true hz H).mono ?_
    rintro e w1 ⟨rfl, b1⟩
    replace ha := hcall ha b1
    replace hb := hcall hb b1
    replace D := below_call D b1
    clear b1
    go_wp2_with fail
    with_reducible refine (refMay9_is n c A l _ (hl.below D) true hs HM).mono ?_
    rintro e w2 ⟨rfl, b2⟩
    replace ha := hcall ha b2
    replace hb := hcall hb b2
    replace D := below_call D b2
    clear b2
    obtain ⟨ka0, ka1, ka2, ka3, ka4, ka5, kaz⟩ := cellsSe ua ia aa pa ma ta ha
    obtain ⟨kb0, kb1, kb2, kb3, kb4, kb5, kbz⟩ := cellsSe ub ib ab pb mb tb hb
    have r1 := (Own.lit (e := 34) (base := 0) enSe_len w2 [⟨ua, ia, aa, pa, ma, ta⟩, ⟨ub, ib, ab, pb, mb, tb⟩] #[.string ua, .int .i64 ia, .int .i64 aa, .int .i64 pa, .int .i64 ma, .string ta, .string ub, .int .i64 ib, .int .i64 ab, .int .i64 pb, .int .i64 mb, .string tb] 2 rfl rfl (Nat.zero_le _) (by omega)).row
    replace ha := halloc ha (.cells #[.string ua, .int .i64 ia, .int .i64 aa, .int .i64 pa, .int .i64 ma, .string ta, .string ub, .int .i64 ib, .int .i64 ab, .int .i64 pb, .int .i64 mb, .string tb] 34)
    replace hb := halloc hb (.cells #[.string ua, .int .i64 ia, .int .i64 aa, .int .i64 pa, .int .i64 ma, .string ta, .string ub, .int .i64 ib, .int .i64 ab, .int .i64 pb, .int .i64 mb, .string tb] 34)
    replace D := below_alloc0 D (.cells #[.string ua, .int .i64 ia, .int .i64 aa, .int .i64 pa, .int .i64 ma, .string ta, .string ub, .int .i64 ib, .int .i64 ab, .int .i64 pb, .int .i64 mb, .string tb] 34)
    go_wp2_with fail
    with_reducible refine (few9_is 2 2 _ [⟨ua, ia, aa, pa, ma, ta⟩, ⟨ub, ib, ab, pb, mb, tb⟩] _ r1 true hz1 H2).mono ?_
    rintro e w3 ⟨rfl, b3⟩
    replace ha := hcall ha b3
    replace hb := hcall hb b3
    replace D := below_call D b3
    clear b3 ka0 ka1 ka2 ka3 ka4 ka5 kaz kb0 kb1 kb2 kb3 kb4 kb5 kbz
    clear r1
    obtain ⟨ka0, ka1, ka2, ka3, ka4, ka5, kaz⟩ := cellsSe ua ia aa pa ma ta ha
    go_wp2_with fail
    with_reducible refine (re_ (refOne_calls ua ia aa pa ma ta _ hua hta) (ret_bool (show _ = false from Ha.out))).mono ?_
    rintro e w4 ⟨rfl, b4⟩
    replace ha := hcall ha b4
    replace hb := hcall hb b4
    replace D := below_call D b4
    clear b4 ka0 ka1 ka2 ka3 ka4 ka5 kaz
    go_wp2_with fail
    with_reducible refine (live09 _).mono ?_
    rintro e w5 ⟨rfl, b5⟩
    replace ha := hcall ha b5
    replace hb := hcall hb b5
    replace D := below_call D b5
    clear b5
    go_wp2
    go_ret
    exact ⟨rfl, D⟩
  | true =>
  have hoa := Lib.hid h
  have Ha := Lib.hid h
  clear h
  cases h : oneS ⟨ub, ib, ab, pb, mb, tb⟩ with
  | false =>
    have Hb := Lib.hid h
    clear h
    go_enter Try.func7, Try.ntmps7
    go_wp2_with fail
    with_reducible refine (few9_is n c A l _ (hl.below D) true hz H).mono ?_
    rintro e w1 ⟨rfl, b1⟩
    replace ha := hcall ha b1
    replace hb := hcall hb b1
    replace D := below_call D b1
    clear b1
    go_wp2_with fail
    with_reducible refine (refMay9_is n c A l _ (hl.below D) true hs HM).mono ?_
    rintro e w2 ⟨rfl, b2⟩
    replace ha := hcall ha b2
    replace hb := hcall hb b2
    replace D := below_call D b2
    clear b2
    obtain ⟨ka0, ka1, ka2, ka3, ka4, ka5, kaz⟩ := cellsSe ua ia aa pa ma ta ha
    obtain ⟨kb0, kb1, kb2, kb3, kb4, kb5, kbz⟩ := cellsSe ub ib ab pb mb tb hb
    have r1 := (Own.lit (e := 34) (base := 0) enSe_len w2 [⟨ua, ia, aa, pa, ma, ta⟩, ⟨ub, ib, ab, pb, mb, tb⟩] #[.string ua, .int .i64 ia, .int .i64 aa, .int .i64 pa, .int .i64 ma, .string ta, .string ub, .int .i64 ib, .int .i64 ab, .int .i64 pb, .int .i64 mb, .string tb] 2 rfl rfl (Nat.zero_le _) (by omega)).row
    replace ha := halloc ha (.cells #[.string ua, .int .i64 ia, .int .i64 aa, .int .i64 pa, .int .i64 ma, .string ta, .string ub, .int .i64 ib, .int .i64 ab, .int .i64 pb, .int .i64 mb, .string tb] 34)
    replace hb := halloc hb (.cells #[.string ua, .int .i64 ia, .int .i64 aa, .int .i64 pa, .int .i64 ma, .string ta, .string ub, .int .i64 ib, .int .i64 ab, .int .i64 pb, .int .i64 mb, .string tb] 34)
    replace D := below_alloc0 D (.cells #[.string ua, .int .i64 ia, .int .i64 aa, .int .i64 pa, .int .i64 ma, .string ta, .string ub, .int .i64 ib, .int .i64 ab, .int .i64 pb, .int .i64 mb, .string tb] 34)
    go_wp2_with fail
    with_reducible refine (few9_is 2 2 _ [⟨ua, ia, aa, pa, ma, ta⟩, ⟨ub, ib, ab, pb, mb, tb⟩] _ r1 true hz1 H2).mono ?_
    rintro e w3 ⟨rfl, b3⟩
    replace ha := hcall ha b3
    replace hb := hcall hb b3
    replace D := below_call D b3
    clear b3 ka0 ka1 ka2 ka3 ka4 ka5 kaz kb0 kb1 kb2 kb3 kb4 kb5 kbz
    clear r1
    obtain ⟨ka0, ka1, ka2, ka3, ka4, ka5, kaz⟩ := cellsSe ua ia aa pa ma ta ha
    go_wp2_with fail
    with_reducible refine (re_ (refOne_calls ua ia aa pa ma ta _ hua hta) (ret_bool (show _ = true from Ha.out))).mono ?_
    rintro e w4 ⟨rfl, b4⟩
    replace ha := hcall ha b4
    replace hb := hcall hb b4
    replace D := below_call D b4
    clear b4 ka0 ka1 ka2 ka3 ka4 ka5 kaz
    obtain ⟨kb0, kb1, kb2, kb3, kb4, kb5, kbz⟩ := cellsSe ub ib ab pb mb tb hb
    go_wp2_with fail
    with_reducible refine (re_ (refOne_calls ub ib ab pb mb tb _ hub htb) (ret_bool (show _ = false from Hb.out))).mono ?_
    rintro e w5 ⟨rfl, b5⟩
    replace ha := hcall ha b5
    replace hb := hcall hb b5
    replace D := below_call D b5
    clear b5 kb0 kb1 kb2 kb3 kb4 kb5 kbz
    go_wp2_with fail
    with_reducible refine (live09 _).mono ?_
    rintro e w6 ⟨rfl, b6⟩
    replace ha := hcall ha b6
    replace hb := hcall hb b6
    replace D := below_call D b6
    clear b6
    go_wp2
    go_ret
    exact ⟨rfl, D⟩
  | true =>
  obtain ⟨x, y, xy, yx, P1, P2, P3, P4, P5, PI, _, _, _, _⟩ := two_plain hm.out hlm hoa.out h
  have Hb := Lib.hid h
  clear h hoa hm hlm
  have sx : SzSe x := maySe_sz (putSe_may P1)
  have sy : SzSe y := maySe_sz (putSe_may P2)
  replace P1 := Lib.hid P1
  replace P2 := Lib.hid P2
  replace P3 := Lib.hid P3
  replace P4 := Lib.hid P4
  replace P5 := Lib.hid P5
  obtain ⟨be, hbe⟩ : ∃ be, (ua.toList == ub.toList) = be := ⟨_, rfl⟩
  obtain ⟨bi, hbi⟩ : ∃ bi, (ia == ib) = bi := ⟨_, rfl⟩
  have HBE := Lib.hid hbe
  have HBI := Lib.hid hbi
  have PE : be = true → bi = true → xy = y ∧ yx = x := by
    intro e1 e2
    rw [← hbe] at e1
    rw [← hbi] at e2
    rw [beq_iff_eq, toList_inj'] at e1
    rw [beq_iff_eq] at e2
    have := PI
    rw [if_pos ⟨e1, e2⟩] at this
    exact this
  have PN : ¬ (be = true ∧ bi = true) → xy = yx := by
    intro e
    have := PI
    rwa [if_neg (fun h => e ⟨by rw [← hbe, beq_iff_eq, toList_inj']; exact h.1, by rw [← hbi, beq_iff_eq]; exact h.2⟩)] at this
  clear PI hbe hbi
  cases be with
  | false =>
    have PX : Hid (xy = yx) := PN (by simp)
    clear PE PN
    go_enter Try.func7, Try.ntmps7
    go_wp2_with fail
    with_reducible refine (few9_is n c A l _ (hl.below D) true hz H).mono ?_
    rintro e w1 ⟨rfl, b1⟩
    replace ha := hcall ha b1
    replace hb := hcall hb b1
    replace D := below_call D b1
    clear b1
    go_wp2_with fail
    with_reducible refine (refMay9_is n c A l _ (hl.below D) true hs HM).mono ?_
    rintro e w2 ⟨rfl, b2⟩
    replace ha := hcall ha b2
    replace hb := hcall hb b2
    replace D := below_call D b2
    clear b2
    obtain ⟨ka0, ka1, ka2, ka3, ka4, ka5, kaz⟩ := cellsSe ua ia aa pa ma ta ha
    obtain ⟨kb0, kb1, kb2, kb3, kb4, kb5, kbz⟩ := cellsSe ub ib ab pb mb tb hb
    have r1 := (Own.lit (e := 34) (base := 0) enSe_len w2 [⟨ua, ia, aa, pa, ma, ta⟩, ⟨ub, ib, ab, pb, mb, tb⟩] #[.string ua, .int .i64 ia, .int .i64 aa, .int .i64 pa, .int .i64 ma, .string ta, .string ub, .int .i64 ib, .int .i64 ab, .int .i64 pb, .int .i64 mb, .string tb] 2 rfl rfl (Nat.zero_le _) (by omega)).row
    replace ha := halloc ha (.cells #[.string ua, .int .i64 ia, .int .i64 aa, .int .i64 pa, .int .i64 ma, .string ta, .string ub, .int .i64 ib, .int .i64 ab, .int .i64 pb, .int .i64 mb, .string tb] 34)
    replace hb := halloc hb (.cells #[.string ua, .int .i64 ia, .int .i64 aa, .int .i64 pa, .int .i64 ma, .string ta, .string ub, .int .i64 ib, .int .i64 ab, .int .i64 pb, .int .i64 mb, .string tb] 34)
    replace D := below_alloc0 D (.cells #[.string ua, .int .i64 ia, .int .i64 aa, .int .i64 pa, .int .i64 ma, .string ta, .string ub, .int .i64 ib, .int .i64 ab, .int .i64 pb, .int .i64 mb, .string tb] 34)
    go_wp2_with fail
    with_reducible refine (few9_is 2 2 _ [⟨ua, ia, aa, pa, ma, ta⟩, ⟨ub, ib, ab, pb, mb, tb⟩] _ r1 true hz1 H2).mono ?_
    rintro e w3 ⟨rfl, b3⟩
    replace ha := hcall ha b3
    replace hb := hcall hb b3
    replace D := below_call D b3
    clear b3 ka0 ka1 ka2 ka3 ka4 ka5 kaz kb0 kb1 kb2 kb3 kb4 kb5 kbz
    clear r1
    obtain ⟨ka0, ka1, ka2, ka3, ka4, ka5, kaz⟩ := cellsSe ua ia aa pa ma ta ha
    go_wp2_with fail
    with_reducible refine (re_ (refOne_calls ua ia aa pa ma ta _ hua hta) (ret_bool (show _ = true from Ha.out))).mono ?_
    rintro e w4 ⟨rfl, b4⟩
    replace ha := hcall ha b4
    replace hb := hcall hb b4
    replace D := below_call D b4
    clear b4 ka0 ka1 ka2 ka3 ka4 ka5 kaz
    obtain ⟨kb0, kb1, kb2, kb3, kb4, kb5, kbz⟩ := cellsSe ub ib ab pb mb tb hb
    go_wp2_with fail
    with_reducible refine (re_ (refOne_calls ub ib ab pb mb tb _ hub htb) (ret_bool (show _ = true from Hb.out))).mono ?_
    rintro e w5 ⟨rfl, b5⟩
    replace ha := hcall ha b5
    replace hb := hcall hb b5
    replace D := below_call D b5
    clear b5 kb0 kb1 kb2 kb3 kb4 kb5 kbz
    obtain ⟨ka0, ka1, ka2, ka3, ka4, ka5, kaz⟩ := cellsSe ua ia aa pa ma ta ha
    go_wp2_with fail
    with_reducible refine (Put9_is n c A l _ (hl.below D) ua ia aa pa ma ta x 0 hs hua hta P1).mono ?_
    rintro e w6 ⟨v1, rfl, r1, b6⟩
    replace ha := hcall ha b6
    replace hb := hcall hb b6
    replace D := below_call D b6
    clear b6 ka0 ka1 ka2 ka3 ka4 ka5 kaz
    obtain ⟨A1, c1, rfl⟩ := r1.form _ rfl
    obtain ⟨kb0, kb1, kb2, kb3, kb4, kb5, kbz⟩ := cellsSe ub ib ab pb mb tb hb
    go_wp2_with fail
    with_reducible refine (Put9_is n c A l _ (hl.below D) ub ib ab pb mb tb y 0 hs hub htb P2).mono ?_
    rintro e w7 ⟨v2, rfl, r2, b7⟩
    replace ha := hcall ha b7
    replace hb := hcall hb b7
    replace r1 := r1.below b7
    replace D := below_call D b7
    clear b7 kb0 kb1 kb2 kb3 kb4 kb5 kbz
    obtain ⟨A2, c2, rfl⟩ := r2.form _ rfl
    obtain ⟨kb0, kb1, kb2, kb3, kb4, kb5, kbz⟩ := cellsSe ub ib ab pb mb tb hb
    go_wp2_with fail
    with_reducible refine (Put9_is _ _ _ x _ r1 ub ib ab pb mb tb xy 0 sx hub htb P3).mono ?_
    rintro e w8 ⟨v3, rfl, r3, b8⟩
    replace ha := hcall ha b8
    replace hb := hcall hb b8
    replace r1 := r1.below b8
    replace r2 := r2.below b8
    replace D := below_call D b8
    clear b8 kb0 kb1 kb2 kb3 kb4 kb5 kbz
    obtain ⟨A3, c3, rfl⟩ := r3.form _ rfl
    obtain ⟨ka0, ka1, ka2, ka3, ka4, ka5, kaz⟩ := cellsSe ua ia aa pa ma ta ha
    go_wp2_with fail
    with_reducible refine (Put9_is _ _ _ y _ r2 ua ia aa pa ma ta yx 0 sy hua hta P4).mono ?_
    rintro e w9 ⟨v4, rfl, r4, b9⟩
    replace ha := hcall ha b9
    replace hb := hcall hb b9
    replace r1 := r1.below b9
    replace r2 := r2.below b9
    replace r3 := r3.below b9
    replace D := below_call D b9
    clear b9 ka0 ka1 ka2 ka3 ka4 ka5 kaz
    obtain ⟨A4, c4, rfl⟩ := r4.form _ rfl
    obtain ⟨ka0, ka1, ka2, ka3, ka4, ka5, kaz⟩ := cellsSe ua ia aa pa ma ta ha
    go_wp2_with fail
    with_reducible refine (Put9_is _ _ _ x _ r1 ua ia aa pa ma ta x 0 sx hua hta P5).mono ?_
    rintro e w10 ⟨v5, rfl, r5, b10⟩
    replace ha := hcall ha b10
    replace hb := hcall hb b10
    replace r1 := r1.below b10
    replace r2 := r2.below b10
    replace r3 := r3.below b10
    replace r4 := r4.below b10
    replace D := below_call D b10
    clear b10 ka0 ka1 ka2 ka3 ka4 ka5 kaz
    obtain ⟨A5, c5, rfl⟩ := r5.form _ rfl
    go_wp2_with fail
    with_reducible refine (re_ (sameSe _ _ _ _ _ _ x x _ r1 r5) (ret_bool (decide_eq_true rfl))).mono ?_
    rintro e w11 ⟨rfl, b11⟩
    replace ha := hcall ha b11
    replace hb := hcall hb b11
    replace r1 := r1.below b11
    replace r2 := r2.below b11
    replace r3 := r3.below b11
    replace r4 := r4.below b11
    replace r5 := r5.below b11
    replace D := below_call D b11
    clear b11
    clear r5
    obtain ⟨ka0, ka1, ka2, ka3, ka4, ka5, kaz⟩ := cellsSe ua ia aa pa ma ta ha
    obtain ⟨kb0, kb1, kb2, kb3, kb4, kb5, kbz⟩ := cellsSe ub ib ab pb mb tb hb
    have g1 := HBE.out
    have g2 := HBI.out
    go_wp2_with fail
    with_reducible refine (re_ (sameSe _ _ _ _ _ _ xy yx _ r3 r4) (ret_bool (decide_eq_true PX.out))).mono ?_
    rintro e w12 ⟨rfl, b12⟩
    replace ha := hcall ha b12
    replace hb := hcall hb b12
    replace r1 := r1.below b12
    replace r2 := r2.below b12
    replace r3 := r3.below b12
    replace r4 := r4.below b12
    replace D := below_call D b12
    clear b12 ka0 ka1 ka2 ka3 ka4 ka5 kaz kb0 kb1 kb2 kb3 kb4 kb5 kbz
    clear r1 r2 r3 r4
    go_wp2_with fail
    with_reducible refine (live09 _).mono ?_
    rintro e w13 ⟨rfl, b13⟩
    replace ha := hcall ha b13
    replace hb := hcall hb b13
    replace D := below_call D b13
    clear b13
    go_wp2
    go_ret
    exact ⟨rfl, D⟩
  | true =>
  cases bi with
  | false =>
    have PX : Hid (xy = yx) := PN (by simp)
    clear PE PN
    go_enter Try.func7, Try.ntmps7
    go_wp2_with fail
    with_reducible refine (few9_is n c A l _ (hl.below D) true hz H).mono ?_
    rintro e w1 ⟨rfl, b1⟩
    replace ha := hcall ha b1
    replace hb := hcall hb b1
    replace D := below_call D b1
    clear b1
    go_wp2_with fail
    with_reducible refine (refMay9_is n c A l _ (hl.below D) true hs HM).mono ?_
    rintro e w2 ⟨rfl, b2⟩
    replace ha := hcall ha b2
    replace hb := hcall hb b2
    replace D := below_call D b2
    clear b2
    obtain ⟨ka0, ka1, ka2, ka3, ka4, ka5, kaz⟩ := cellsSe ua ia aa pa ma ta ha
    obtain ⟨kb0, kb1, kb2, kb3, kb4, kb5, kbz⟩ := cellsSe ub ib ab pb mb tb hb
    have r1 := (Own.lit (e := 34) (base := 0) enSe_len w2 [⟨ua, ia, aa, pa, ma, ta⟩, ⟨ub, ib, ab, pb, mb, tb⟩] #[.string ua, .int .i64 ia, .int .i64 aa, .int .i64 pa, .int .i64 ma, .string ta, .string ub, .int .i64 ib, .int .i64 ab, .int .i64 pb, .int .i64 mb, .string tb] 2 rfl rfl (Nat.zero_le _) (by omega)).row
    replace ha := halloc ha (.cells #[.string ua, .int .i64 ia, .int .i64 aa, .int .i64 pa, .int .i64 ma, .string ta, .string ub, .int .i64 ib, .int .i64 ab, .int .i64 pb, .int .i64 mb, .string tb] 34)
    replace hb := halloc hb (.cells #[.string ua, .int .i64 ia, .int .i64 aa, .int .i64 pa, .int .i64 ma, .string ta, .string ub, .int .i64 ib, .int .i64 ab, .int .i64 pb, .int .i64 mb, .string tb] 34)
    replace D := below_alloc0 D (.cells #[.string ua, .int .i64 ia, .int .i64 aa, .int .i64 pa, .int .i64 ma, .string ta, .string ub, .int .i64 ib, .int .i64 ab, .int .i64 pb, .int .i64 mb, .string tb] 34)
    go_wp2_with fail
    with_reducible refine (few9_is 2 2 _ [⟨ua, ia, aa, pa, ma, ta⟩, ⟨ub, ib, ab, pb, mb, tb⟩] _ r1 true hz1 H2).mono ?_
    rintro e w3 ⟨rfl, b3⟩
    replace ha := hcall ha b3
    replace hb := hcall hb b3
    replace D := below_call D b3
    clear b3 ka0 ka1 ka2 ka3 ka4 ka5 kaz kb0 kb1 kb2 kb3 kb4 kb5 kbz
    clear r1
    obtain ⟨ka0, ka1, ka2, ka3, ka4, ka5, kaz⟩ := cellsSe ua ia aa pa ma ta ha
    go_wp2_with fail
    with_reducible refine (re_ (refOne_calls ua ia aa pa ma ta _ hua hta) (ret_bool (show _ = true from Ha.out))).mono ?_
    rintro e w4 ⟨rfl, b4⟩
    replace ha := hcall ha b4
    replace hb := hcall hb b4
    replace D := below_call D b4
    clear b4 ka0 ka1 ka2 ka3 ka4 ka5 kaz
    obtain ⟨kb0, kb1, kb2, kb3, kb4, kb5, kbz⟩ := cellsSe ub ib ab pb mb tb hb
    go_wp2_with fail
    with_reducible refine (re_ (refOne_calls ub ib ab pb mb tb _ hub htb) (ret_bool (show _ = true from Hb.out))).mono ?_
    rintro e w5 ⟨rfl, b5⟩
    replace ha := hcall ha b5
    replace hb := hcall hb b5
    replace D := below_call D b5
    clear b5 kb0 kb1 kb2 kb3 kb4 kb5 kbz
    obtain ⟨ka0, ka1, ka2, ka3, ka4, ka5, kaz⟩ := cellsSe ua ia aa pa ma ta ha
    go_wp2_with fail
    with_reducible refine (Put9_is n c A l _ (hl.below D) ua ia aa pa ma ta x 0 hs hua hta P1).mono ?_
    rintro e w6 ⟨v1, rfl, r1, b6⟩
    replace ha := hcall ha b6
    replace hb := hcall hb b6
    replace D := below_call D b6
    clear b6 ka0 ka1 ka2 ka3 ka4 ka5 kaz
    obtain ⟨A1, c1, rfl⟩ := r1.form _ rfl
    obtain ⟨kb0, kb1, kb2, kb3, kb4, kb5, kbz⟩ := cellsSe ub ib ab pb mb tb hb
    go_wp2_with fail
    with_reducible refine (Put9_is n c A l _ (hl.below D) ub ib ab pb mb tb y 0 hs hub htb P2).mono ?_
    rintro e w7 ⟨v2, rfl, r2, b7⟩
    replace ha := hcall ha b7
    replace hb := hcall hb b7
    replace r1 := r1.below b7
    replace D := below_call D b7
    clear b7 kb0 kb1 kb2 kb3 kb4 kb5 kbz
    obtain ⟨A2, c2, rfl⟩ := r2.form _ rfl
    obtain ⟨kb0, kb1, kb2, kb3, kb4, kb5, kbz⟩ := cellsSe ub ib ab pb mb tb hb
    go_wp2_with fail
    with_reducible refine (Put9_is _ _ _ x _ r1 ub ib ab pb mb tb xy 0 sx hub htb P3).mono ?_
    rintro e w8 ⟨v3, rfl, r3, b8⟩
    replace ha := hcall ha b8
    replace hb := hcall hb b8
    replace r1 := r1.below b8
    replace r2 := r2.below b8
    replace D := below_call D b8
    clear b8 kb0 kb1 kb2 kb3 kb4 kb5 kbz
    obtain ⟨A3, c3, rfl⟩ := r3.form _ rfl
    obtain ⟨ka0, ka1, ka2, ka3, ka4, ka5, kaz⟩ := cellsSe ua ia aa pa ma ta ha
    go_wp2_with fail
    with_reducible refine (Put9_is _ _ _ y _ r2 ua ia aa pa ma ta yx 0 sy hua hta P4).mono ?_
    rintro e w9 ⟨v4, rfl, r4, b9⟩
    replace ha := hcall ha b9
    replace hb := hcall hb b9
    replace r1 := r1.below b9
    replace r2 := r2.below b9
    replace r3 := r3.below b9
    replace D := below_call D b9
    clear b9 ka0 ka1 ka2 ka3 ka4 ka5 kaz
    obtain ⟨A4, c4, rfl⟩ := r4.form _ rfl
    obtain ⟨ka0, ka1, ka2, ka3, ka4, ka5, kaz⟩ := cellsSe ua ia aa pa ma ta ha
    go_wp2_with fail
    with_reducible refine (Put9_is _ _ _ x _ r1 ua ia aa pa ma ta x 0 sx hua hta P5).mono ?_
    rintro e w10 ⟨v5, rfl, r5, b10⟩
    replace ha := hcall ha b10
    replace hb := hcall hb b10
    replace r1 := r1.below b10
    replace r2 := r2.below b10
    replace r3 := r3.below b10
    replace r4 := r4.below b10
    replace D := below_call D b10
    clear b10 ka0 ka1 ka2 ka3 ka4 ka5 kaz
    obtain ⟨A5, c5, rfl⟩ := r5.form _ rfl
    go_wp2_with fail
    with_reducible refine (re_ (sameSe _ _ _ _ _ _ x x _ r1 r5) (ret_bool (decide_eq_true rfl))).mono ?_
    rintro e w11 ⟨rfl, b11⟩
    replace ha := hcall ha b11
    replace hb := hcall hb b11
    replace r1 := r1.below b11
    replace r2 := r2.below b11
    replace r3 := r3.below b11
    replace r4 := r4.below b11
    replace r5 := r5.below b11
    replace D := below_call D b11
    clear b11
    clear r5
    obtain ⟨ka0, ka1, ka2, ka3, ka4, ka5, kaz⟩ := cellsSe ua ia aa pa ma ta ha
    obtain ⟨kb0, kb1, kb2, kb3, kb4, kb5, kbz⟩ := cellsSe ub ib ab pb mb tb hb
    have g1 := HBE.out
    have g2 := HBI.out
    go_wp2_with fail
    with_reducible refine (re_ (sameSe _ _ _ _ _ _ xy yx _ r3 r4) (ret_bool (decide_eq_true PX.out))).mono ?_
    rintro e w12 ⟨rfl, b12⟩
    replace ha := hcall ha b12
    replace hb := hcall hb b12
    replace r1 := r1.below b12
    replace r2 := r2.below b12
    replace r3 := r3.below b12
    replace r4 := r4.below b12
    replace D := below_call D b12
    clear b12 ka0 ka1 ka2 ka3 ka4 ka5 kaz kb0 kb1 kb2 kb3 kb4 kb5 kbz
    clear r1 r2 r3 r4
    go_wp2_with fail
    with_reducible refine (live09 _).mono ?_
    rintro e w13 ⟨rfl, b13⟩
    replace ha := hcall ha b13
    replace hb := hcall hb b13
    replace D := below_call D b13
    clear b13
    go_wp2
    go_ret
    exact ⟨rfl, D⟩
  | true =>
    have PX : Hid (xy = y) := (PE rfl rfl).1
    have PY : Hid (yx = x) := (PE rfl rfl).2
    clear PE PN
    go_enter Try.func7, Try.ntmps7
    go_wp2_with fail
    with_reducible refine (few9_is n c A l _ (hl.below D) true hz H).mono ?_
    rintro e w1 ⟨rfl, b1⟩
    replace ha := hcall ha b1
    replace hb := hcall hb b1
    replace D := below_call D b1
    clear b1
    go_wp2_with fail
    with_reducible refine (refMay9_is n c A l _ (hl.below D) true hs HM).mono ?_
    rintro e w2 ⟨rfl, b2⟩
    replace ha := hcall ha b2
    replace hb := hcall hb b2
    replace D := below_call D b2
    clear b2
    obtain ⟨ka0, ka1, ka2, ka3, ka4, ka5, kaz⟩ := cellsSe ua ia aa pa ma ta ha
    obtain ⟨kb0, kb1, kb2, kb3, kb4, kb5, kbz⟩ := cellsSe ub ib ab pb mb tb hb
    have r1 := (Own.lit (e := 34) (base := 0) enSe_len w2 [⟨ua, ia, aa, pa, ma, ta⟩, ⟨ub, ib, ab, pb, mb, tb⟩] #[.string ua, .int .i64 ia, .int .i64 aa, .int .i64 pa, .int .i64 ma, .string ta, .string ub, .int .i64 ib, .int .i64 ab, .int .i64 pb, .int .i64 mb, .string tb] 2 rfl rfl (Nat.zero_le _) (by omega)).row
    replace ha := halloc ha (.cells #[.string ua, .int .i64 ia, .int .i64 aa, .int .i64 pa, .int .i64 ma, .string ta, .string ub, .int .i64 ib, .int .i64 ab, .int .i64 pb, .int .i64 mb, .string tb] 34)
    replace hb := halloc hb (.cells #[.string ua, .int .i64 ia, .int .i64 aa, .int .i64 pa, .int .i64 ma, .string ta, .string ub, .int .i64 ib, .int .i64 ab, .int .i64 pb, .int .i64 mb, .string tb] 34)
    replace D := below_alloc0 D (.cells #[.string ua, .int .i64 ia, .int .i64 aa, .int .i64 pa, .int .i64 ma, .string ta, .string ub, .int .i64 ib, .int .i64 ab, .int .i64 pb, .int .i64 mb, .string tb] 34)
    go_wp2_with fail
    with_reducible refine (few9_is 2 2 _ [⟨ua, ia, aa, pa, ma, ta⟩, ⟨ub, ib, ab, pb, mb, tb⟩] _ r1 true hz1 H2).mono ?_
    rintro e w3 ⟨rfl, b3⟩
    replace ha := hcall ha b3
    replace hb := hcall hb b3
    replace D := below_call D b3
    clear b3 ka0 ka1 ka2 ka3 ka4 ka5 kaz kb0 kb1 kb2 kb3 kb4 kb5 kbz
    clear r1
    obtain ⟨ka0, ka1, ka2, ka3, ka4, ka5, kaz⟩ := cellsSe ua ia aa pa ma ta ha
    go_wp2_with fail
    with_reducible refine (re_ (refOne_calls ua ia aa pa ma ta _ hua hta) (ret_bool (show _ = true from Ha.out))).mono ?_
    rintro e w4 ⟨rfl, b4⟩
    replace ha := hcall ha b4
    replace hb := hcall hb b4
    replace D := below_call D b4
    clear b4 ka0 ka1 ka2 ka3 ka4 ka5 kaz
    obtain ⟨kb0, kb1, kb2, kb3, kb4, kb5, kbz⟩ := cellsSe ub ib ab pb mb tb hb
    go_wp2_with fail
    with_reducible refine (re_ (refOne_calls ub ib ab pb mb tb _ hub htb) (ret_bool (show _ = true from Hb.out))).mono ?_
    rintro e w5 ⟨rfl, b5⟩
    replace ha := hcall ha b5
    replace hb := hcall hb b5
    replace D := below_call D b5
    clear b5 kb0 kb1 kb2 kb3 kb4 kb5 kbz
    obtain ⟨ka0, ka1, ka2, ka3, ka4, ka5, kaz⟩ := cellsSe ua ia aa pa ma ta ha
    go_wp2_with fail
    with_reducible refine (Put9_is n c A l _ (hl.below D) ua ia aa pa ma ta x 0 hs hua hta P1).mono ?_
    rintro e w6 ⟨v1, rfl, r1, b6⟩
    replace ha := hcall ha b6
    replace hb := hcall hb b6
    replace D := below_call D b6
    clear b6 ka0 ka1 ka2 ka3 ka4 ka5 kaz
    obtain ⟨A1, c1, rfl⟩ := r1.form _ rfl
    obtain ⟨kb0, kb1, kb2, kb3, kb4, kb5, kbz⟩ := cellsSe ub ib ab pb mb tb hb
    go_wp2_with fail
    with_reducible refine (Put9_is n c A l _ (hl.below D) ub ib ab pb mb tb y 0 hs hub htb P2).mono ?_
    rintro e w7 ⟨v2, rfl, r2, b7⟩
    replace ha := hcall ha b7
    replace hb := hcall hb b7
    replace r1 := r1.below b7
    replace D := below_call D b7
    clear b7 kb0 kb1 kb2 kb3 kb4 kb5 kbz
    obtain ⟨A2, c2, rfl⟩ := r2.form _ rfl
    obtain ⟨kb0, kb1, kb2, kb3, kb4, kb5, kbz⟩ := cellsSe ub ib ab pb mb tb hb
    go_wp2_with fail
    with_reducible refine (Put9_is _ _ _ x _ r1 ub ib ab pb mb tb xy 0 sx hub htb P3).mono ?_
    rintro e w8 ⟨v3, rfl, r3, b8⟩
    replace ha := hcall ha b8
    replace hb := hcall hb b8
    replace r1 := r1.below b8
    replace r2 := r2.below b8
    replace D := below_call D b8
    clear b8 kb0 kb1 kb2 kb3 kb4 kb5 kbz
    obtain ⟨A3, c3, rfl⟩ := r3.form _ rfl
    obtain ⟨ka0, ka1, ka2, ka3, ka4, ka5, kaz⟩ := cellsSe ua ia aa pa ma ta ha
    go_wp2_with fail
    with_reducible refine (Put9_is _ _ _ y _ r2 ua ia aa pa ma ta yx 0 sy hua hta P4).mono ?_
    rintro e w9 ⟨v4, rfl, r4, b9⟩
    replace ha := hcall ha b9
    replace hb := hcall hb b9
    replace r1 := r1.below b9
    replace r2 := r2.below b9
    replace r3 := r3.below b9
    replace D := below_call D b9
    clear b9 ka0 ka1 ka2 ka3 ka4 ka5 kaz
    obtain ⟨A4, c4, rfl⟩ := r4.form _ rfl
    obtain ⟨ka0, ka1, ka2, ka3, ka4, ka5, kaz⟩ := cellsSe ua ia aa pa ma ta ha
    go_wp2_with fail
    with_reducible refine (Put9_is _ _ _ x _ r1 ua ia aa pa ma ta x 0 sx hua hta P5).mono ?_
    rintro e w10 ⟨v5, rfl, r5, b10⟩
    replace ha := hcall ha b10
    replace hb := hcall hb b10
    replace r1 := r1.below b10
    replace r2 := r2.below b10
    replace r3 := r3.below b10
    replace r4 := r4.below b10
    replace D := below_call D b10
    clear b10 ka0 ka1 ka2 ka3 ka4 ka5 kaz
    obtain ⟨A5, c5, rfl⟩ := r5.form _ rfl
    go_wp2_with fail
    with_reducible refine (re_ (sameSe _ _ _ _ _ _ x x _ r1 r5) (ret_bool (decide_eq_true rfl))).mono ?_
    rintro e w11 ⟨rfl, b11⟩
    replace ha := hcall ha b11
    replace hb := hcall hb b11
    replace r1 := r1.below b11
    replace r2 := r2.below b11
    replace r3 := r3.below b11
    replace r4 := r4.below b11
    replace r5 := r5.below b11
    replace D := below_call D b11
    clear b11
    clear r5
    obtain ⟨ka0, ka1, ka2, ka3, ka4, ka5, kaz⟩ := cellsSe ua ia aa pa ma ta ha
    obtain ⟨kb0, kb1, kb2, kb3, kb4, kb5, kbz⟩ := cellsSe ub ib ab pb mb tb hb
    have g1 := HBE.out
    have g2 := HBI.out
    go_wp2_with fail
    with_reducible refine (re_ (sameSe _ _ _ _ _ _ xy y _ r3 r2) (ret_bool (decide_eq_true PX.out))).mono ?_
    rintro e w12 ⟨rfl, b12⟩
    replace ha := hcall ha b12
    replace hb := hcall hb b12
    replace r1 := r1.below b12
    replace r2 := r2.below b12
    replace r3 := r3.below b12
    replace r4 := r4.below b12
    replace D := below_call D b12
    clear b12 ka0 ka1 ka2 ka3 ka4 ka5 kaz kb0 kb1 kb2 kb3 kb4 kb5 kbz
    go_wp2_with fail
    with_reducible refine (re_ (sameSe _ _ _ _ _ _ yx x _ r4 r1) (ret_bool (decide_eq_true PY.out))).mono ?_
    rintro e w13 ⟨rfl, b13⟩
    replace ha := hcall ha b13
    replace hb := hcall hb b13
    replace r1 := r1.below b13
    replace r2 := r2.below b13
    replace r3 := r3.below b13
    replace r4 := r4.below b13
    replace D := below_call D b13
    clear b13
    clear r1 r2 r3 r4
    go_wp2_with fail
    with_reducible refine (live09 _).mono ?_
    rintro e w14 ⟨rfl, b14⟩
    replace ha := hcall ha b14
    replace hb := hcall hb b14
    replace D := below_call D b14
    clear b14
    go_wp2
    go_ret
    exact ⟨rfl, D⟩
end Go.Proofs.Ytcopiimflloooaa
