/-
Layer 8: the walk of RostDoes.
-/
import Derived.Test.YtpmafghknafhaaaRosQ
import Derived.Test.YtpmafghknafhaaaRosV
import Derived.Test.YtpmafghknafhaaaMvSt
import Derived.Test.YtpmafghknafhaaaMvRk
set_option linter.unusedVariables false
set_option linter.unusedSimpArgs false
namespace Go.Proofs.Ytpmafghknafhaaa
open Go.RowKit
open Sp
theorem refSame8_is (n c n2 c2 : Nat) (A B : Option Addr) (l m : List En) (b : Bool) (w : World) (hl : Row enEn 7 w (.slice A n c) l) (hm : Row enEn 7 w (.slice B n2 c2) m) (h : Hid (decide (l = m) = b)) :
    Calls Try.prog 25 #[.slice A n c, .slice B n2 c2] w fun e w' => e = .returned (.bool b) ∧ Below w.heap.size w w' :=
  re_ (refSame8_calls n c n2 c2 A B l m w hl hm) (ret_bool h.out)
set_option maxHeartbeats 16000000 in
set_option maxRecDepth 100000 in
theorem does8_walk (n c : Nat) (A : Option Addr) (l : List En) (m : Mv) (w : World) (hl : Row enEn 7 w (.slice A n c) l) (hz : SzE l) (hm : OkMv m) :
    Calls Try.prog 4 #[.slice A n c, vaMv m] w fun e w' => e = .returned (.bool true) ∧ Below w.heap.size w w' := by
  obtain ⟨k, p, q⟩ := m
  have hq : p.size ≤ 9223372036854775807 ∧ q.size ≤ 9223372036854775807 := by simp only [OkMv, maxLen] at hm; exact hm
  have EA := Lib.hid hl.len_eq
  have D := below_box (w := w) (bxMv k p q)
  have hb := heap_alloc_new w (bxMv k p q)
  replace hl := hl.below D
  cases h : fewRo l with
  | false =>
    have H := Lib.hid h
    clear h
    go_enter Try.func4, Try.ntmps4
    go_wp2_with fail
    with_reducible refine (few8_is n c A l _ hl false hz H).mono ?_
    rintro e w1 ⟨rfl, b1⟩
    replace hl := hl.below b1
    replace hb := hcall hb b1
    replace D := below_call D b1
    clear b1
    go_wp2_with fail
    with_reducible refine (live08 _).mono ?_
    rintro e w2 ⟨rfl, b2⟩
    replace hl := hl.below b2
    replace hb := hcall hb b2
    replace D := below_call D b2
    clear b2
    go_wp2
    go_ret
    exact ⟨rfl, D⟩
  | true =>
  obtain ⟨hs, h80⟩ := fewRo_sz h
  have hn : n ≤ 900 := by have := EA.out; omega
  have H := Lib.hid h
  clear h h80
  by_cases hps : (40 : Int) < (p.size : Int)
  · go_enter Try.func4, Try.ntmps4
    go_wp2_with fail
    with_reducible refine (few8_is n c A l _ hl true hz H).mono ?_
    rintro e w1 ⟨rfl, b1⟩
    replace hl := hl.below b1
    replace hb := hcall hb b1
    replace D := below_call D b1
    clear b1
    obtain ⟨y0, y1, y2, yz⟩ := cellsMv k p q hb
    go_wp2_with fail
    with_reducible refine (live08 _).mono ?_
    rintro e w2 ⟨rfl, b2⟩
    replace hl := hl.below b2
    replace hb := hcall hb b2
    replace D := below_call D b2
    clear b2 y0 y1 y2 yz
    go_wp2
    go_ret
    exact ⟨rfl, D⟩
  by_cases hqs : (40 : Int) < (q.size : Int)
  · have hps' : (p.size : Int) ≤ 40 := by omega
    go_enter Try.func4, Try.ntmps4
    go_wp2_with fail
    with_reducible refine (few8_is n c A l _ hl true hz H).mono ?_
    rintro e w1 ⟨rfl, b1⟩
    replace hl := hl.below b1
    replace hb := hcall hb b1
    replace D := below_call D b1
    clear b1
    obtain ⟨y0, y1, y2, yz⟩ := cellsMv k p q hb
    go_wp2_with fail
    with_reducible refine (live08 _).mono ?_
    rintro e w2 ⟨rfl, b2⟩
    replace hl := hl.below b2
    replace hb := hcall hb b2
    replace D := below_call D b2
    clear b2 y0 y1 y2 yz
    go_wp2
    go_ret
    exact ⟨rfl, D⟩
  have hps' : (p.size : Int) ≤ 40 := by omega
  have hqs' : (q.size : Int) ≤ 40 := by omega
  have hp' : p.size ≤ 140737488351232 := by omega
  have hq' : q.size ≤ 140737488351232 := by omega
  obtain ⟨r, er, hr⟩ : ∃ r e, doRo l k p q = (r, e) := ⟨_, _, rfl⟩
  have HR := Lib.hid hr
  obtain ⟨nr, hnr⟩ : ∃ j, r.length = j := ⟨_, rfl⟩
  have HN := Lib.hid hnr
  clear hr hnr hps hqs
  go_enter Try.func4, Try.ntmps4
  go_wp2_with fail
  with_reducible refine (few8_is n c A l _ hl true hz H).mono ?_
  rintro e w1 ⟨rfl, b1⟩
  replace hl := hl.below b1
  replace hb := hcall hb b1
  replace D := below_call D b1
  clear b1
  obtain ⟨y0, y1, y2, yz⟩ := cellsMv k p q hb
  go_wp2_with fail
  with_reducible refine (Do8_is n c A l _ hl k p q r er hs hn hp' hq' HR).mono ?_
  rintro e w2 ⟨v1, rfl, r1, b2⟩
  replace hl := hl.below b2
  replace hb := hcall hb b2
  replace D := below_call D b2
  clear b2 y0 y1 y2 yz
  obtain ⟨A1, c1, rfl⟩ := Row.form8 r1 nr HN.out
  obtain ⟨y0, y1, y2, yz⟩ := cellsMv k p q hb
  go_wp2_with fail
  with_reducible refine (refDo8_is n c A l _ hl k p q r er hs hn hp' hq' HR).mono ?_
  rintro e w3 ⟨v2, rfl, r2, b3⟩
  replace hl := hl.below b3
  replace hb := hcall hb b3
  replace r1 := r1.below b3
  replace D := below_call D b3
  clear b3 y0 y1 y2 yz
  obtain ⟨A2, c2, rfl⟩ := Row.form8 r2 nr HN.out
  go_wp2_with fail
  with_reducible refine (re_ (refSame8_calls nr c1 nr c2 A1 A2 r r _ r1 r2) (ret_bool (decide_eq_true rfl))).mono ?_
  rintro e w4 ⟨rfl, b4⟩
  replace hl := hl.below b4
  replace hb := hcall hb b4
  replace r1 := r1.below b4
  replace r2 := r2.below b4
  replace D := below_call D b4
  clear b4
  go_wp2_with fail
  with_reducible refine (live08 _).mono ?_
  rintro e w5 ⟨rfl, b5⟩
  replace hl := hl.below b5
  replace hb := hcall hb b5
  replace r1 := r1.below b5
  replace r2 := r2.below b5
  replace D := below_call D b5
  clear b5
  go_wp2
  go_ret
  exact ⟨rfl, D⟩
end Go.Proofs.Ytpmafghknafhaaa
