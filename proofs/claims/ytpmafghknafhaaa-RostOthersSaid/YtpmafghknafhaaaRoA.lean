/-
Layer 8: the walk of RostOthers.
-/
import Derived.Test.YtpmafghknafhaaaRosY
import Derived.Test.YtpmafghknafhaaaRosZ
set_option linter.unusedVariables false
set_option linter.unusedSimpArgs false
namespace Go.Proofs.Ytpmafghknafhaaa
open Go.RowKit
open Sp
abbrev bxA2 (x y : ByteArray) : Obj := .cells #[.string x, .string y] 43
theorem cellsA2 {W : World} {g : Nat} {x y : ByteArray} (h : W.heap[g]? = some (bxA2 x y)) : W.cell? ⟨g, 0, none⟩ = some (.string x) ∧ W.cell? ⟨g, 1, none⟩ = some (.string y) ∧ g < W.heap.size :=
  ⟨by simp [World.cell?, h], by simp [World.cell?, h], (Array.getElem?_eq_some_iff.1 h).1⟩
noncomputable def opsrabe : Array Oper := Held.inBody 8 Try.f6.body
def ordrabe : List Nat := [0, 1, 2, 3, 4, 6, 7, 8, 9, 10, 5, 11, 12, 13, 14, 15, 16, 17, 18, 20, 21, 22, 23, 24, 19, 25, 26, 27]
set_option maxRecDepth 100000 in
theorem rgrabe : Held.Reg opsrabe ordrabe 28 [0, 1, 2, 3, 4, 5, 6, 7, 8, 9, 12, 13, 14, 15, 16, 17, 18, 19, 20, 21, 22, 23, 26, 27] := ⟨by kernel_rfl, by kernel_rfl, by kernel_rfl⟩
noncomputable def opsrace : Array Oper := Held.inBody 8 Try.f6.body
def ordrace : List Nat := [0, 1, 2, 3, 4, 6, 7, 8, 9, 10, 5, 11, 12, 13, 14, 15, 16, 17, 18, 20, 21, 22, 23, 24, 19, 25, 26, 27]
set_option maxRecDepth 100000 in
theorem rgrace : Held.Reg opsrace ordrace 28 [0, 1, 2, 3, 4, 5, 6, 7, 8, 9, 12, 13, 14, 15, 16, 17, 18, 19, 20, 21, 22, 23, 26, 27] := ⟨by kernel_rfl, by kernel_rfl, by kernel_rfl⟩
noncomputable def opsrade : Array Oper := Held.inBody 8 Try.f6.body
def ordrade : List Nat := [0, 1, 2, 3, 4, 6, 7, 8, 9, 10, 5, 11, 12, 13, 14, 15, 16, 17, 18, 20, 21, 22, 23, 24, 19, 25, 26, 27]
set_option maxRecDepth 100000 in
theorem rgrade : Held.Reg opsrade ordrade 28 [0, 1, 2, 3, 4, 5, 6, 7, 8, 9, 12, 13, 14, 15, 16, 17, 18, 19, 20, 21, 22, 23, 26, 27] := ⟨by kernel_rfl, by kernel_rfl, by kernel_rfl⟩
noncomputable def opsradf : Array Oper := Held.inBody 12 Try.f6.body
def ordradf : List Nat := [0, 1, 2, 4, 5, 6, 3, 7, 8, 9, 10, 11, 12, 14, 15, 16, 13, 17, 18, 19, 20, 21, 22, 23]
set_option maxRecDepth 100000 in
theorem rgradf : Held.Reg opsradf ordradf 24 [0, 1, 2, 3, 4, 5, 9, 10, 11, 12, 13, 14, 15, 19, 20, 22, 23] := ⟨by kernel_rfl, by kernel_rfl, by kernel_rfl⟩
noncomputable def opsraee : Array Oper := Held.inBody 8 Try.f6.body
def ordraee : List Nat := [0, 1, 2, 3, 4, 6, 7, 8, 9, 10, 5, 11, 12, 13, 14, 15, 16, 17, 18, 20, 21, 22, 23, 24, 19, 25, 26, 27]
set_option maxRecDepth 100000 in
theorem rgraee : Held.Reg opsraee ordraee 28 [0, 1, 2, 3, 4, 5, 6, 7, 8, 9, 12, 13, 14, 15, 16, 17, 18, 19, 20, 21, 22, 23, 26, 27] := ⟨by kernel_rfl, by kernel_rfl, by kernel_rfl⟩
noncomputable def opsrafe : Array Oper := Held.inBody 8 Try.f6.body
def ordrafe : List Nat := [0, 1, 2, 3, 4, 6, 7, 8, 9, 10, 5, 11, 12, 13, 14, 15, 16, 17, 18, 20, 21, 22, 23, 24, 19, 25, 26, 27]
set_option maxRecDepth 100000 in
theorem rgrafe : Held.Reg opsrafe ordrafe 28 [0, 1, 2, 3, 4, 5, 6, 7, 8, 9, 12, 13, 14, 15, 16, 17, 18, 19, 20, 21, 22, 23, 26, 27] := ⟨by kernel_rfl, by kernel_rfl, by kernel_rfl⟩
noncomputable def opsraff : Array Oper := Held.inBody 12 Try.f6.body
def ordraff : List Nat := [0, 1, 2, 4, 5, 6, 3, 7, 8, 9, 10, 11, 12, 14, 15, 16, 13, 17, 18, 19, 20, 21, 22, 23]
set_option maxRecDepth 100000 in
theorem rgraff : Held.Reg opsraff ordraff 24 [0, 1, 2, 3, 4, 5, 9, 10, 11, 12, 13, 14, 15, 19, 20, 22, 23] := ⟨by kernel_rfl, by kernel_rfl, by kernel_rfl⟩
set_option maxHeartbeats 32000000 in
set_option maxRecDepth 100000 in
theorem others8_walk (n c : Nat) (A : Option Addr) (l : List En) (m : Mv) (x y : ByteArray) (w : World) (hl : Row enEn 7 w (.slice A n c) l) (hz : SzE l) (hm : OkMv m) :
    Calls Try.prog 6 #[.slice A n c, vaMv m, .agg #[.string x, .string y]] w fun e w' => e = .returned (.bool true) ∧ Below w.heap.size w w' := by
  obtain ⟨k, p, q⟩ := m
  have hq : p.size ≤ 9223372036854775807 ∧ q.size ≤ 9223372036854775807 := by simp only [OkMv, maxLen] at hm; exact hm
  have EA := Lib.hid hl.len_eq
  have D := below_alloc0 (below_box (w := w) (bxMv k p q)) (bxA2 x y)
  have hb := halloc (heap_alloc_new w (bxMv k p q)) (bxA2 x y)
  have ha := heap_alloc_new (w.alloc (bxMv k p q)) (bxA2 x y)
  rw [size_alloc] at ha
  replace hl := hl.below D
  cases h : fewRo l with
  | false =>
    have H := Lib.hid h
    clear h
    go_enter Try.func6, Try.ntmps6
    go_wp2_with fail
    with_reducible refine (few8_is n c A l _ hl false hz H).mono ?_
    rintro e w1 ⟨rfl, b1⟩
    replace hl := hl.below b1
    replace hb := hcall hb b1
    replace ha := hcall ha b1
    replace D := below_call D b1
    clear b1
    go_wp2_with fail
    with_reducible refine (live08 _).mono ?_
    rintro e w2 ⟨rfl, b2⟩
    replace hl := hl.below b2
    replace hb := hcall hb b2
    replace ha := hcall ha b2
    replace D := below_call D b2
    clear b2
    go_wp2
    go_ret
    exact ⟨rfl, D⟩
  | true =>
  obtain ⟨hs, h80⟩ := fewRo_sz h
  have hn : n ≤ 900 := by have := EA.out; omega
  have hn1 : n ≤ 100000 := by omega
  have H := Lib.hid h
  clear h
  obtain ⟨mb, hmb⟩ : ∃ b, mayRo l = b := ⟨_, rfl⟩
  have HM := Lib.hid hmb
  clear hmb
  cases mb with
  | false =>
    go_enter Try.func6, Try.ntmps6
    go_wp2_with fail
    with_reducible refine (few8_is n c A l _ hl true hz H).mono ?_
    rintro e w1 ⟨rfl, b1⟩
    replace hl := hl.below b1
    replace hb := hcall hb b1
    replace ha := hcall ha b1
    replace D := below_call D b1
    clear b1
    go_wp2_with fail
    with_reducible refine (refMay8_is n c A l _ hl false hs hn1 HM).mono ?_
    rintro e w2 ⟨rfl, b2⟩
    replace hl := hl.below b2
    replace hb := hcall hb b2
    replace ha := hcall ha b2
    replace D := below_call D b2
    clear b2
    go_wp2_with fail
    with_reducible refine (live08 _).mono ?_
    rintro e w3 ⟨rfl, b3⟩
    replace hl := hl.below b3
    replace hb := hcall hb b3
    replace ha := hcall ha b3
    replace D := below_call D b3
    clear b3
    go_wp2
    go_ret
    exact ⟨rfl, D⟩
  | true =>
  by_cases hps : (40 : Int) < (p.size : Int)
  · go_enter Try.func6, Try.ntmps6
    go_wp2_with fail
    with_reducible refine (few8_is n c A l _ hl true hz H).mono ?_
    rintro e w1 ⟨rfl, b1⟩
    replace hl := hl.below b1
    replace hb := hcall hb b1
    replace ha := hcall ha b1
    replace D := below_call D b1
    clear b1
    go_wp2_with fail
    with_reducible refine (refMay8_is n c A l _ hl true hs hn1 HM).mono ?_
    rintro e w2 ⟨rfl, b2⟩
    replace hl := hl.below b2
    replace hb := hcall hb b2
    replace ha := hcall ha b2
    replace D := below_call D b2
    clear b2
    obtain ⟨y0, y1, y2, yz⟩ := cellsMv k p q hb
    obtain ⟨z0, z1, zz⟩ := cellsA2 ha
    go_wp2_with fail
    with_reducible refine (live08 _).mono ?_
    rintro e w3 ⟨rfl, b3⟩
    replace hl := hl.below b3
    replace hb := hcall hb b3
    replace ha := hcall ha b3
    replace D := below_call D b3
    clear b3 y0 y1 y2 yz z0 z1 zz
    go_wp2
    go_ret
    exact ⟨rfl, D⟩
  have hpl : (p.size : Int) ≤ 40 := by omega
  clear hps
  by_cases hqs : (40 : Int) < (q.size : Int)
  · go_enter Try.func6, Try.ntmps6
    go_wp2_with fail
    with_reducible refine (few8_is n c A l _ hl true hz H).mono ?_
    rintro e w1 ⟨rfl, b1⟩
    replace hl := hl.below b1
    replace hb := hcall hb b1
    replace ha := hcall ha b1
    replace D := below_call D b1
    clear b1
    go_wp2_with fail
    with_reducible refine (refMay8_is n c A l _ hl true hs hn1 HM).mono ?_
    rintro e w2 ⟨rfl, b2⟩
    replace hl := hl.below b2
    replace hb := hcall hb b2
    replace ha := hcall ha b2
    replace D := below_call D b2
    clear b2
    obtain ⟨y0, y1, y2, yz⟩ := cellsMv k p q hb
    obtain ⟨z0, z1, zz⟩ := cellsA2 ha
    go_wp2_with fail
    with_reducible refine (live08 _).mono ?_
    rintro e w3 ⟨rfl, b3⟩
    replace hl := hl.below b3
    replace hb := hcall hb b3
    replace ha := hcall ha b3
    replace D := below_call D b3
    clear b3 y0 y1 y2 yz z0 z1 zz
    go_wp2
    go_ret
    exact ⟨rfl, D⟩
  have hql : (q.size : Int) ≤ 40 := by omega
  clear hqs
  by_cases hxs : (40 : Int) < (x.size : Int)
  · go_enter Try.func6, Try.ntmps6
    go_wp2_with fail
    with_reducible refine (few8_is n c A l _ hl true hz H).mono ?_
    rintro e w1 ⟨rfl, b1⟩
    replace hl := hl.below b1
    replace hb := hcall hb b1
    replace ha := hcall ha b1
    replace D := below_call D b1
    clear b1
    go_wp2_with fail
    with_reducible refine (refMay8_is n c A l _ hl true hs hn1 HM).mono ?_
    rintro e w2 ⟨rfl, b2⟩
    replace hl := hl.below b2
    replace hb := hcall hb b2
    replace ha := hcall ha b2
    replace D := below_call D b2
    clear b2
    obtain ⟨y0, y1, y2, yz⟩ := cellsMv k p q hb
    obtain ⟨z0, z1, zz⟩ := cellsA2 ha
    go_wp2_with fail
    with_reducible refine (live08 _).mono ?_
    rintro e w3 ⟨rfl, b3⟩
    replace hl := hl.below b3
    replace hb := hcall hb b3
    replace ha := hcall ha b3
    replace D := below_call D b3
    clear b3 y0 y1 y2 yz z0 z1 zz
    go_wp2
    go_ret
    exact ⟨rfl, D⟩
  have hxl : (x.size : Int) ≤ 40 := by omega
  clear hxs
  by_cases hys : (40 : Int) < (y.size : Int)
  · go_enter Try.func6, Try.ntmps6
    go_wp2_with fail
    with_reducible refine (few8_is n c A l _ hl true hz H).mono ?_
    rintro e w1 ⟨rfl, b1⟩
    replace hl := hl.below b1
    replace hb := hcall hb b1
    replace ha := hcall ha b1
    replace D := below_call D b1
    clear b1
    go_wp2_with fail
    with_reducible refine (refMay8_is n c A l _ hl true hs hn1 HM).mono ?_
    rintro e w2 ⟨rfl, b2⟩
    replace hl := hl.below b2
    replace hb := hcall hb b2
    replace ha := hcall ha b2
    replace D := below_call D b2
    clear b2
    obtain ⟨y0, y1, y2, yz⟩ := cellsMv k p q hb
    obtain ⟨z0, z1, zz⟩ := cellsA2 ha
    go_wp2_with fail
    with_reducible refine (live08 _).mono ?_
    rintro e w3 ⟨rfl, b3⟩
    replace hl := hl.below b3
    replace hb := hcall hb b3
    replace ha := hcall ha b3
    replace D := below_call D b3
    clear b3 y0 y1 y2 yz z0 z1 zz
    go_wp2
    go_ret
    exact ⟨rfl, D⟩
  have hyl : (y.size : Int) ≤ 40 := by omega
  clear hys
  have hp' : p.size ≤ 140737488351232 := by omega
  have hq' : q.size ≤ 140737488351232 := by omega
  obtain ⟨r, er, hr⟩ : ∃ r e, doRo l k p q = (r, e) := ⟨_, _, rfl⟩
  obtain ⟨nr, hnr⟩ : ∃ j, r.length = j := ⟨_, rfl⟩
  have HN := Lib.hid hnr
  have HR := Lib.hid hr
  clear hnr
  by_cases her : er = 0
  case neg =>
    have he2 : (er == 0) = false := by simpa using her
    obtain rfl : r = l := doRo_err hr her
    clear her hr
    go_enter Try.func6, Try.ntmps6
    go_wp2_with fail
    with_reducible refine (few8_is n c A r _ hl true hz H).mono ?_
    rintro e w1 ⟨rfl, b1⟩
    replace hl := hl.below b1
    replace hb := hcall hb b1
    replace ha := hcall ha b1
    replace D := below_call D b1
    clear b1
    go_wp2_with fail
    with_reducible refine (refMay8_is n c A r _ hl true hs hn1 HM).mono ?_
    rintro e w2 ⟨rfl, b2⟩
    replace hl := hl.below b2
    replace hb := hcall hb b2
    replace ha := hcall ha b2
    replace D := below_call D b2
    clear b2
    obtain ⟨y0, y1, y2, yz⟩ := cellsMv k p q hb
    obtain ⟨z0, z1, zz⟩ := cellsA2 ha
    go_wp2_with fail
    with_reducible refine (Do8_is n c A r _ hl k p q r er hs hn hp' hq' HR).mono ?_
    rintro e w3 ⟨v1, rfl, r1, b3⟩
    replace hl := hl.below b3
    replace hb := hcall hb b3
    replace ha := hcall ha b3
    replace D := below_call D b3
    clear b3 y0 y1 y2 yz z0 z1 zz
    obtain ⟨A1, c1, rfl⟩ := Row.form8 r1 nr HN.out
    go_wp2_with fail
    with_reducible refine (re_ (refSame8_calls nr c1 n c A1 A r r _ r1 hl) (ret_bool (decide_eq_true rfl))).mono ?_
    rintro e w4 ⟨rfl, b4⟩
    replace hl := hl.below b4
    replace hb := hcall hb b4
    replace ha := hcall ha b4
    replace r1 := r1.below b4
    replace D := below_call D b4
    clear b4
    go_wp2_with fail
    with_reducible refine (live08 _).mono ?_
    rintro e w5 ⟨rfl, b5⟩
    replace hl := hl.below b5
    replace hb := hcall hb b5
    replace ha := hcall ha b5
    replace r1 := r1.below b5
    replace D := below_call D b5
    clear b5
    go_wp2
    go_ret
    exact ⟨rfl, D⟩
  subst her
  have hml := HM.out
  have hnr1 : nr ≤ 100000 := by
    have h3 := HN.out
    obtain ⟨_, a, b, _, e⟩ := doRo_ok hr
    have h4 := setRo_len (setRo l ⟨p, q, a⟩ (!(emptyI a && emptyI b))) ⟨q, p, b⟩ (!(emptyI a && emptyI b))
    have h5 := setRo_len l ⟨p, q, a⟩ (!(emptyI a && emptyI b))
    rw [← e] at h4
    omega
  clear h80
  by_cases exp : x = p
  · have exp1 : (x.toList == p.toList) = true := by rw [exp]; exact beq_self_eq_true _
    by_cases eyq : y = q
    · have eyq1 : (y.toList == q.toList) = true := by rw [eyq]; exact beq_self_eq_true _
      clear hr hml exp eyq
      go_enter Try.func6, Try.ntmps6
      go_wp2_with fail
      with_reducible refine (few8_is n c A l _ hl true hz H).mono ?_
      rintro e w1 ⟨rfl, b1⟩
      replace hl := hl.below b1
      replace hb := hcall hb b1
      replace ha := hcall ha b1
      replace D := below_call D b1
      clear b1
      go_wp2_with fail
      with_reducible refine (refMay8_is n c A l _ hl true hs hn1 HM).mono ?_
      rintro e w2 ⟨rfl, b2⟩
      replace hl := hl.below b2
      replace hb := hcall hb b2
      replace ha := hcall ha b2
      replace D := below_call D b2
      clear b2
      obtain ⟨y0, y1, y2, yz⟩ := cellsMv k p q hb
      obtain ⟨z0, z1, zz⟩ := cellsA2 ha
      go_wp2_with fail
      with_reducible refine (Do8_is n c A l _ hl k p q r 0 hs hn hp' hq' HR).mono ?_
      rintro e w3 ⟨v1, rfl, r1, b3⟩
      replace hl := hl.below b3
      replace hb := hcall hb b3
      replace ha := hcall ha b3
      replace D := below_call D b3
      clear b3 y0 y1 y2 yz z0 z1 zz
      obtain ⟨A1, c1, rfl⟩ := Row.form8 r1 nr HN.out
      obtain ⟨y0, y1, y2, yz⟩ := cellsMv k p q hb
      obtain ⟨z0, z1, zz⟩ := cellsA2 ha
      go_wp2_with fail
      with_reducible refine (live08 _).mono ?_
      rintro e w4 ⟨rfl, b4⟩
      replace hl := hl.below b4
      replace hb := hcall hb b4
      replace ha := hcall ha b4
      replace r1 := r1.below b4
      replace D := below_call D b4
      clear b4 y0 y1 y2 yz z0 z1 zz
      go_wp2
      go_ret
      exact ⟨rfl, D⟩
    · have eyq1 : (y.toList == q.toList) = false := by simpa [toList_inj'] using eyq
      have eyq2 : ¬ y.toList = q.toList := by simpa [toList_inj'] using eyq
      by_cases eyp : y = p
      · have eyp1 : (y.toList == p.toList) = true := by rw [eyp]; exact beq_self_eq_true _
        by_cases exq : x = q
        · have exq1 : (x.toList == q.toList) = true := by rw [exq]; exact beq_self_eq_true _
          exact absurd (eyp.trans (exp.symm.trans exq)) eyq
        · have exq1 : (x.toList == q.toList) = false := by simpa [toList_inj'] using exq
          have exq2 : ¬ x.toList = q.toList := by simpa [toList_inj'] using exq
          have h1 : ¬ (x = p ∧ y = q) := fun e => eyq e.2
          have h2 : ¬ (y = p ∧ x = q) := fun e => exq e.2
          obtain ⟨⟨g1, g2, g3, g4, g5⟩, hg⟩ : ∃ i, getRo l x y = i := ⟨_, rfl⟩
          obtain ⟨sb, hsb⟩ : ∃ b, seesRo l x y = b := ⟨_, rfl⟩
          have HG := Lib.hid hg
          have HGR := Lib.hid ((others_get hml hr h1 h2).trans hg)
          have HS := Lib.hid hsb
          have HSR := Lib.hid ((others_sees hml hr h1 h2).trans hsb)
          have hci := neqIt g1 g2 g3 g4 g5 g1 g2 g3 g4 g5
          rw [eqvIt, decide_eq_true rfl, Bool.not_true] at hci
          have hcb : (sb != sb) = false := by simp
          clear hg hsb
          clear hr
          clear h1 h2
          clear hml exp eyq eyp exq
          go_enter Try.func6, Try.ntmps6
          go_wp2_with fail
          with_reducible refine (few8_is n c A l _ hl true hz H).mono ?_
          rintro e w1 ⟨rfl, b1⟩
          replace hl := hl.below b1
          replace hb := hcall hb b1
          replace ha := hcall ha b1
          replace D := below_call D b1
          clear b1
          go_wp2_with fail
          with_reducible refine (refMay8_is n c A l _ hl true hs hn1 HM).mono ?_
          rintro e w2 ⟨rfl, b2⟩
          replace hl := hl.below b2
          replace hb := hcall hb b2
          replace ha := hcall ha b2
          replace D := below_call D b2
          clear b2
          obtain ⟨y0, y1, y2, yz⟩ := cellsMv k p q hb
          obtain ⟨z0, z1, zz⟩ := cellsA2 ha
          go_wp2_with fail
          with_reducible refine (Do8_is n c A l _ hl k p q r 0 hs hn hp' hq' HR).mono ?_
          rintro e w3 ⟨v1, rfl, r1, b3⟩
          replace hl := hl.below b3
          replace hb := hcall hb b3
          replace ha := hcall ha b3
          replace D := below_call D b3
          clear b3 y0 y1 y2 yz z0 z1 zz
          obtain ⟨A1, c1, rfl⟩ := Row.form8 r1 nr HN.out
          obtain ⟨y0, y1, y2, yz⟩ := cellsMv k p q hb
          obtain ⟨z0, z1, zz⟩ := cellsA2 ha
          replace hl : Row _ _ w3.drew _ _ := hl
          replace hb : w3.drew.heap[_]? = _ := hb
          replace ha : w3.drew.heap[_]? = _ := ha
          replace r1 : Row _ _ w3.drew _ _ := r1
          replace D : Below _ _ w3.drew := D.drew
          go_wp2_with fail
          refine Held.start (ops := opsrabe) (S := fun w' => w'.cell? ⟨w.heap.size + 1, 0, none⟩ = some (.string x) ∧ w'.cell? ⟨w.heap.size + 1, 1, none⟩ = some (.string y)) ordrabe 28 (by kernel_rfl) rgrabe.siz (by kernel_rfl) ⟨z0, z1⟩ (fun hHeld => ?_)
          iterate 10
            refine Held.tk (v := ?_) rgrabe rfl rfl rfl (fun _ _ _ h => h) (by assumption) (Or.inl ⟨by kernel_rfl, ?_⟩) ?_
            rotate_left
            · (intro w hSw; (try dsimp only at hSw); go_simp; (try (first | with_reducible rfl | rw [if_neg (by omega)])))
            try simp only [Act.put, List.getElem_toArray, List.getElem_cons_succ, List.getElem_cons_zero, List.setIfInBounds_toArray, List.set_cons_zero, List.set_cons_succ]
          refine Held.only (k := 10) (i := 5) (by kernel_rfl) (by kernel_rfl) rfl (by kernel_rfl) (fun K hK => ?_)
          go_simp
          go_at_call 14
          with_reducible refine (Get8_is nr c1 A1 r _ r1 x y g1 g2 g3 g4 g5 HGR).mono ?_
          rintro e w4 ⟨rfl, hbx⟩
          replace z0 := cell_below hbx z0
          replace z1 := cell_below hbx z1
          replace hl := hl.below hbx
          replace hb := hcall hb hbx
          replace ha := hcall ha hbx
          replace r1 := r1.below hbx
          replace D := below_call D hbx
          refine hK.out _ _ (by (try dsimp only); (exact ⟨z0, z1⟩)) (fun hHeld => ?_)
          clear hK K
          try simp only [Act.put, List.getElem_toArray, List.getElem_cons_succ, List.getElem_cons_zero, List.setIfInBounds_toArray, List.set_cons_zero, List.set_cons_succ]
          refine Held.only (k := 11) (i := 11) (by kernel_rfl) (by kernel_rfl) rfl (by kernel_rfl) (fun K hK => ?_)
          go_simp
          go_at_call 14
          with_reducible refine (Get8_is n c A l _ hl x y g1 g2 g3 g4 g5 HG).mono ?_
          rintro e w5 ⟨rfl, hbx⟩
          replace z0 := cell_below hbx z0
          replace z1 := cell_below hbx z1
          replace hl := hl.below hbx
          replace hb := hcall hb hbx
          replace ha := hcall ha hbx
          replace r1 := r1.below hbx
          replace D := below_call D hbx
          refine hK.out _ _ (by (try dsimp only); (exact ⟨z0, z1⟩)) (fun hHeld => ?_)
          clear hK K
          try simp only [Act.put, List.getElem_toArray, List.getElem_cons_succ, List.getElem_cons_zero, List.setIfInBounds_toArray, List.set_cons_zero, List.set_cons_succ]
          iterate 12
            refine Held.tk (v := ?_) rgrabe rfl rfl rfl (fun _ _ _ h => h) (by assumption) (Or.inl ⟨by kernel_rfl, ?_⟩) ?_
            rotate_left
            · (intro w hSw; (try dsimp only at hSw); go_simp; (try (first | with_reducible rfl | rw [if_neg (by omega)])))
            try simp only [Act.put, List.getElem_toArray, List.getElem_cons_succ, List.getElem_cons_zero, List.setIfInBounds_toArray, List.set_cons_zero, List.set_cons_succ]
          refine Held.only (k := 24) (i := 19) (by kernel_rfl) (by kernel_rfl) rfl (by kernel_rfl) (fun K hK => ?_)
          go_simp
          go_at_call 19
          with_reducible refine (Sees8_is nr c1 A1 r _ r1 x y sb HSR).mono ?_
          rintro e w6 ⟨rfl, hbx⟩
          replace z0 := cell_below hbx z0
          replace z1 := cell_below hbx z1
          replace hl := hl.below hbx
          replace hb := hcall hb hbx
          replace ha := hcall ha hbx
          replace r1 := r1.below hbx
          replace D := below_call D hbx
          refine hK.out _ _ (by (try dsimp only); (exact ⟨z0, z1⟩)) (fun hHeld => ?_)
          clear hK K
          try simp only [Act.put, List.getElem_toArray, List.getElem_cons_succ, List.getElem_cons_zero, List.setIfInBounds_toArray, List.set_cons_zero, List.set_cons_succ]
          refine Held.only (k := 25) (i := 25) (by kernel_rfl) (by kernel_rfl) rfl (by kernel_rfl) (fun K hK => ?_)
          go_simp
          go_at_call 19
          with_reducible refine (Sees8_is n c A l _ hl x y sb HS).mono ?_
          rintro e w7 ⟨rfl, hbx⟩
          replace z0 := cell_below hbx z0
          replace z1 := cell_below hbx z1
          replace hl := hl.below hbx
          replace hb := hcall hb hbx
          replace ha := hcall ha hbx
          replace r1 := r1.below hbx
          replace D := below_call D hbx
          refine hK.out _ _ (by (try dsimp only); (exact ⟨z0, z1⟩)) (fun hHeld => ?_)
          clear hK K
          try simp only [Act.put, List.getElem_toArray, List.getElem_cons_succ, List.getElem_cons_zero, List.setIfInBounds_toArray, List.set_cons_zero, List.set_cons_succ]
          iterate 2
            refine Held.tk (v := ?_) rgrabe rfl rfl rfl (fun _ _ _ h => h) (by assumption) (Or.inl ⟨by kernel_rfl, ?_⟩) ?_
            rotate_left
            · (intro w hSw; (try dsimp only at hSw); go_simp; (try (first | with_reducible rfl | rw [if_neg (by omega)])))
            try simp only [Act.put, List.getElem_toArray, List.getElem_cons_succ, List.getElem_cons_zero, List.setIfInBounds_toArray, List.set_cons_zero, List.set_cons_succ]
          refine wpAnyH_done (by kernel_rfl) ?_ _
          clear z0 z1
          clear y0 y1 y2 yz zz
          obtain ⟨y0, y1, y2, yz⟩ := cellsMv k p q hb
          obtain ⟨z0, z1, zz⟩ := cellsA2 ha
          go_wp2_with fail
          with_reducible refine (live08 _).mono ?_
          rintro e w8 ⟨rfl, b8⟩
          replace hl := hl.below b8
          replace hb := hcall hb b8
          replace ha := hcall ha b8
          replace r1 := r1.below b8
          replace D := below_call D b8
          clear b8 y0 y1 y2 yz z0 z1 zz
          go_wp2
          go_ret
          exact ⟨rfl, D⟩
      · have eyp1 : (y.toList == p.toList) = false := by simpa [toList_inj'] using eyp
        have eyp2 : ¬ y.toList = p.toList := by simpa [toList_inj'] using eyp
        have h1 : ¬ (x = p ∧ y = q) := fun e => eyq e.2
        have h2 : ¬ (y = p ∧ x = q) := fun e => eyp e.1
        obtain ⟨⟨g1, g2, g3, g4, g5⟩, hg⟩ : ∃ i, getRo l x y = i := ⟨_, rfl⟩
        obtain ⟨sb, hsb⟩ : ∃ b, seesRo l x y = b := ⟨_, rfl⟩
        have HG := Lib.hid hg
        have HGR := Lib.hid ((others_get hml hr h1 h2).trans hg)
        have HS := Lib.hid hsb
        have HSR := Lib.hid ((others_sees hml hr h1 h2).trans hsb)
        have hci := neqIt g1 g2 g3 g4 g5 g1 g2 g3 g4 g5
        rw [eqvIt, decide_eq_true rfl, Bool.not_true] at hci
        have hcb : (sb != sb) = false := by simp
        clear hg hsb
        clear hr
        clear h1 h2
        clear hml exp eyq eyp
        go_enter Try.func6, Try.ntmps6
        go_wp2_with fail
        with_reducible refine (few8_is n c A l _ hl true hz H).mono ?_
        rintro e w1 ⟨rfl, b1⟩
        replace hl := hl.below b1
        replace hb := hcall hb b1
        replace ha := hcall ha b1
        replace D := below_call D b1
        clear b1
        go_wp2_with fail
        with_reducible refine (refMay8_is n c A l _ hl true hs hn1 HM).mono ?_
        rintro e w2 ⟨rfl, b2⟩
        replace hl := hl.below b2
        replace hb := hcall hb b2
        replace ha := hcall ha b2
        replace D := below_call D b2
        clear b2
        obtain ⟨y0, y1, y2, yz⟩ := cellsMv k p q hb
        obtain ⟨z0, z1, zz⟩ := cellsA2 ha
        go_wp2_with fail
        with_reducible refine (Do8_is n c A l _ hl k p q r 0 hs hn hp' hq' HR).mono ?_
        rintro e w3 ⟨v1, rfl, r1, b3⟩
        replace hl := hl.below b3
        replace hb := hcall hb b3
        replace ha := hcall ha b3
        replace D := below_call D b3
        clear b3 y0 y1 y2 yz z0 z1 zz
        obtain ⟨A1, c1, rfl⟩ := Row.form8 r1 nr HN.out
        obtain ⟨y0, y1, y2, yz⟩ := cellsMv k p q hb
        obtain ⟨z0, z1, zz⟩ := cellsA2 ha
        replace hl : Row _ _ w3.drew _ _ := hl
        replace hb : w3.drew.heap[_]? = _ := hb
        replace ha : w3.drew.heap[_]? = _ := ha
        replace r1 : Row _ _ w3.drew _ _ := r1
        replace D : Below _ _ w3.drew := D.drew
        go_wp2_with fail
        refine Held.start (ops := opsrace) (S := fun w' => w'.cell? ⟨w.heap.size + 1, 0, none⟩ = some (.string x) ∧ w'.cell? ⟨w.heap.size + 1, 1, none⟩ = some (.string y)) ordrace 28 (by kernel_rfl) rgrace.siz (by kernel_rfl) ⟨z0, z1⟩ (fun hHeld => ?_)
        iterate 10
          refine Held.tk (v := ?_) rgrace rfl rfl rfl (fun _ _ _ h => h) (by assumption) (Or.inl ⟨by kernel_rfl, ?_⟩) ?_
          rotate_left
          · (intro w hSw; (try dsimp only at hSw); go_simp; (try (first | with_reducible rfl | rw [if_neg (by omega)])))
          try simp only [Act.put, List.getElem_toArray, List.getElem_cons_succ, List.getElem_cons_zero, List.setIfInBounds_toArray, List.set_cons_zero, List.set_cons_succ]
        refine Held.only (k := 10) (i := 5) (by kernel_rfl) (by kernel_rfl) rfl (by kernel_rfl) (fun K hK => ?_)
        go_simp
        go_at_call 14
        with_reducible refine (Get8_is nr c1 A1 r _ r1 x y g1 g2 g3 g4 g5 HGR).mono ?_
        rintro e w4 ⟨rfl, hbx⟩
        replace z0 := cell_below hbx z0
        replace z1 := cell_below hbx z1
        replace hl := hl.below hbx
        replace hb := hcall hb hbx
        replace ha := hcall ha hbx
        replace r1 := r1.below hbx
        replace D := below_call D hbx
        refine hK.out _ _ (by (try dsimp only); (exact ⟨z0, z1⟩)) (fun hHeld => ?_)
        clear hK K
        try simp only [Act.put, List.getElem_toArray, List.getElem_cons_succ, List.getElem_cons_zero, List.setIfInBounds_toArray, List.set_cons_zero, List.set_cons_succ]
        refine Held.only (k := 11) (i := 11) (by kernel_rfl) (by kernel_rfl) rfl (by kernel_rfl) (fun K hK => ?_)
        go_simp
        go_at_call 14
        with_reducible refine (Get8_is n c A l _ hl x y g1 g2 g3 g4 g5 HG).mono ?_
        rintro e w5 ⟨rfl, hbx⟩
        replace z0 := cell_below hbx z0
        replace z1 := cell_below hbx z1
        replace hl := hl.below hbx
        replace hb := hcall hb hbx
        replace ha := hcall ha hbx
        replace r1 := r1.below hbx
        replace D := below_call D hbx
        refine hK.out _ _ (by (try dsimp only); (exact ⟨z0, z1⟩)) (fun hHeld => ?_)
        clear hK K
        try simp only [Act.put, List.getElem_toArray, List.getElem_cons_succ, List.getElem_cons_zero, List.setIfInBounds_toArray, List.set_cons_zero, List.set_cons_succ]
        iterate 12
          refine Held.tk (v := ?_) rgrace rfl rfl rfl (fun _ _ _ h => h) (by assumption) (Or.inl ⟨by kernel_rfl, ?_⟩) ?_
          rotate_left
          · (intro w hSw; (try dsimp only at hSw); go_simp; (try (first | with_reducible rfl | rw [if_neg (by omega)])))
          try simp only [Act.put, List.getElem_toArray, List.getElem_cons_succ, List.getElem_cons_zero, List.setIfInBounds_toArray, List.set_cons_zero, List.set_cons_succ]
        refine Held.only (k := 24) (i := 19) (by kernel_rfl) (by kernel_rfl) rfl (by kernel_rfl) (fun K hK => ?_)
        go_simp
        go_at_call 19
        with_reducible refine (Sees8_is nr c1 A1 r _ r1 x y sb HSR).mono ?_
        rintro e w6 ⟨rfl, hbx⟩
        replace z0 := cell_below hbx z0
        replace z1 := cell_below hbx z1
        replace hl := hl.below hbx
        replace hb := hcall hb hbx
        replace ha := hcall ha hbx
        replace r1 := r1.below hbx
        replace D := below_call D hbx
        refine hK.out _ _ (by (try dsimp only); (exact ⟨z0, z1⟩)) (fun hHeld => ?_)
        clear hK K
        try simp only [Act.put, List.getElem_toArray, List.getElem_cons_succ, List.getElem_cons_zero, List.setIfInBounds_toArray, List.set_cons_zero, List.set_cons_succ]
        refine Held.only (k := 25) (i := 25) (by kernel_rfl) (by kernel_rfl) rfl (by kernel_rfl) (fun K hK => ?_)
        go_simp
        go_at_call 19
        with_reducible refine (Sees8_is n c A l _ hl x y sb HS).mono ?_
        rintro e w7 ⟨rfl, hbx⟩
        replace z0 := cell_below hbx z0
        replace z1 := cell_below hbx z1
        replace hl := hl.below hbx
        replace hb := hcall hb hbx
        replace ha := hcall ha hbx
        replace r1 := r1.below hbx
        replace D := below_call D hbx
        refine hK.out _ _ (by (try dsimp only); (exact ⟨z0, z1⟩)) (fun hHeld => ?_)
        clear hK K
        try simp only [Act.put, List.getElem_toArray, List.getElem_cons_succ, List.getElem_cons_zero, List.setIfInBounds_toArray, List.set_cons_zero, List.set_cons_succ]
        iterate 2
          refine Held.tk (v := ?_) rgrace rfl rfl rfl (fun _ _ _ h => h) (by assumption) (Or.inl ⟨by kernel_rfl, ?_⟩) ?_
          rotate_left
          · (intro w hSw; (try dsimp only at hSw); go_simp; (try (first | with_reducible rfl | rw [if_neg (by omega)])))
          try simp only [Act.put, List.getElem_toArray, List.getElem_cons_succ, List.getElem_cons_zero, List.setIfInBounds_toArray, List.set_cons_zero, List.set_cons_succ]
        refine wpAnyH_done (by kernel_rfl) ?_ _
        clear z0 z1
        clear y0 y1 y2 yz zz
        obtain ⟨y0, y1, y2, yz⟩ := cellsMv k p q hb
        obtain ⟨z0, z1, zz⟩ := cellsA2 ha
        go_wp2_with fail
        with_reducible refine (live08 _).mono ?_
        rintro e w8 ⟨rfl, b8⟩
        replace hl := hl.below b8
        replace hb := hcall hb b8
        replace ha := hcall ha b8
        replace r1 := r1.below b8
        replace D := below_call D b8
        clear b8 y0 y1 y2 yz z0 z1 zz
        go_wp2
        go_ret
        exact ⟨rfl, D⟩
  · have exp1 : (x.toList == p.toList) = false := by simpa [toList_inj'] using exp
    have exp2 : ¬ x.toList = p.toList := by simpa [toList_inj'] using exp
    by_cases eyp : y = p
    · have eyp1 : (y.toList == p.toList) = true := by rw [eyp]; exact beq_self_eq_true _
      by_cases exq : x = q
      · have exq1 : (x.toList == q.toList) = true := by rw [exq]; exact beq_self_eq_true _
        clear hr hml exp eyp exq
        go_enter Try.func6, Try.ntmps6
        go_wp2_with fail
        with_reducible refine (few8_is n c A l _ hl true hz H).mono ?_
        rintro e w1 ⟨rfl, b1⟩
        replace hl := hl.below b1
        replace hb := hcall hb b1
        replace ha := hcall ha b1
        replace D := below_call D b1
        clear b1
        go_wp2_with fail
        with_reducible refine (refMay8_is n c A l _ hl true hs hn1 HM).mono ?_
        rintro e w2 ⟨rfl, b2⟩
        replace hl := hl.below b2
        replace hb := hcall hb b2
        replace ha := hcall ha b2
        replace D := below_call D b2
        clear b2
        obtain ⟨y0, y1, y2, yz⟩ := cellsMv k p q hb
        obtain ⟨z0, z1, zz⟩ := cellsA2 ha
        go_wp2_with fail
        with_reducible refine (Do8_is n c A l _ hl k p q r 0 hs hn hp' hq' HR).mono ?_
        rintro e w3 ⟨v1, rfl, r1, b3⟩
        replace hl := hl.below b3
        replace hb := hcall hb b3
        replace ha := hcall ha b3
        replace D := below_call D b3
        clear b3 y0 y1 y2 yz z0 z1 zz
        obtain ⟨A1, c1, rfl⟩ := Row.form8 r1 nr HN.out
        obtain ⟨y0, y1, y2, yz⟩ := cellsMv k p q hb
        obtain ⟨z0, z1, zz⟩ := cellsA2 ha
        go_wp2_with fail
        with_reducible refine (live08 _).mono ?_
        rintro e w4 ⟨rfl, b4⟩
        replace hl := hl.below b4
        replace hb := hcall hb b4
        replace ha := hcall ha b4
        replace r1 := r1.below b4
        replace D := below_call D b4
        clear b4 y0 y1 y2 yz z0 z1 zz
        go_wp2
        go_ret
        exact ⟨rfl, D⟩
      · have exq1 : (x.toList == q.toList) = false := by simpa [toList_inj'] using exq
        have exq2 : ¬ x.toList = q.toList := by simpa [toList_inj'] using exq
        have h1 : ¬ (x = p ∧ y = q) := fun e => exp e.1
        have h2 : ¬ (y = p ∧ x = q) := fun e => exq e.2
        obtain ⟨⟨g1, g2, g3, g4, g5⟩, hg⟩ : ∃ i, getRo l x y = i := ⟨_, rfl⟩
        obtain ⟨sb, hsb⟩ : ∃ b, seesRo l x y = b := ⟨_, rfl⟩
        have HG := Lib.hid hg
        have HGR := Lib.hid ((others_get hml hr h1 h2).trans hg)
        have HS := Lib.hid hsb
        have HSR := Lib.hid ((others_sees hml hr h1 h2).trans hsb)
        have hci := neqIt g1 g2 g3 g4 g5 g1 g2 g3 g4 g5
        rw [eqvIt, decide_eq_true rfl, Bool.not_true] at hci
        have hcb : (sb != sb) = false := by simp
        clear hg hsb
        clear h1 h2
        obtain ⟨os, hos⟩ : ∃ v, ofRo l x = v := ⟨_, rfl⟩
        obtain ⟨ws, hws⟩ : ∃ v, watchRo l x = v := ⟨_, rfl⟩
        have HO := Lib.hid hos
        have HOR := Lib.hid ((others_of hr exp exq).trans hos)
        have HW := Lib.hid hws
        have HWR := Lib.hid ((others_watch hml hr exp exq).trans hws)
        clear hos hws hr
        clear hml exp eyp exq
        go_enter Try.func6, Try.ntmps6
        go_wp2_with fail
        with_reducible refine (few8_is n c A l _ hl true hz H).mono ?_
        rintro e w1 ⟨rfl, b1⟩
        replace hl := hl.below b1
        replace hb := hcall hb b1
        replace ha := hcall ha b1
        replace D := below_call D b1
        clear b1
        go_wp2_with fail
        with_reducible refine (refMay8_is n c A l _ hl true hs hn1 HM).mono ?_
        rintro e w2 ⟨rfl, b2⟩
        replace hl := hl.below b2
        replace hb := hcall hb b2
        replace ha := hcall ha b2
        replace D := below_call D b2
        clear b2
        obtain ⟨y0, y1, y2, yz⟩ := cellsMv k p q hb
        obtain ⟨z0, z1, zz⟩ := cellsA2 ha
        go_wp2_with fail
        with_reducible refine (Do8_is n c A l _ hl k p q r 0 hs hn hp' hq' HR).mono ?_
        rintro e w3 ⟨v1, rfl, r1, b3⟩
        replace hl := hl.below b3
        replace hb := hcall hb b3
        replace ha := hcall ha b3
        replace D := below_call D b3
        clear b3 y0 y1 y2 yz z0 z1 zz
        obtain ⟨A1, c1, rfl⟩ := Row.form8 r1 nr HN.out
        obtain ⟨y0, y1, y2, yz⟩ := cellsMv k p q hb
        obtain ⟨z0, z1, zz⟩ := cellsA2 ha
        replace hl : Row _ _ w3.drew _ _ := hl
        replace hb : w3.drew.heap[_]? = _ := hb
        replace ha : w3.drew.heap[_]? = _ := ha
        replace r1 : Row _ _ w3.drew _ _ := r1
        replace D : Below _ _ w3.drew := D.drew
        go_wp2_with fail
        refine Held.start (ops := opsrade) (S := fun w' => w'.cell? ⟨w.heap.size + 1, 0, none⟩ = some (.string x) ∧ w'.cell? ⟨w.heap.size + 1, 1, none⟩ = some (.string y)) ordrade 28 (by kernel_rfl) rgrade.siz (by kernel_rfl) ⟨z0, z1⟩ (fun hHeld => ?_)
        iterate 10
          refine Held.tk (v := ?_) rgrade rfl rfl rfl (fun _ _ _ h => h) (by assumption) (Or.inl ⟨by kernel_rfl, ?_⟩) ?_
          rotate_left
          · (intro w hSw; (try dsimp only at hSw); go_simp; (try (first | with_reducible rfl | rw [if_neg (by omega)])))
          try simp only [Act.put, List.getElem_toArray, List.getElem_cons_succ, List.getElem_cons_zero, List.setIfInBounds_toArray, List.set_cons_zero, List.set_cons_succ]
        refine Held.only (k := 10) (i := 5) (by kernel_rfl) (by kernel_rfl) rfl (by kernel_rfl) (fun K hK => ?_)
        go_simp
        go_at_call 14
        with_reducible refine (Get8_is nr c1 A1 r _ r1 x y g1 g2 g3 g4 g5 HGR).mono ?_
        rintro e w4 ⟨rfl, hbx⟩
        replace z0 := cell_below hbx z0
        replace z1 := cell_below hbx z1
        replace hl := hl.below hbx
        replace hb := hcall hb hbx
        replace ha := hcall ha hbx
        replace r1 := r1.below hbx
        replace D := below_call D hbx
        refine hK.out _ _ (by (try dsimp only); (exact ⟨z0, z1⟩)) (fun hHeld => ?_)
        clear hK K
        try simp only [Act.put, List.getElem_toArray, List.getElem_cons_succ, List.getElem_cons_zero, List.setIfInBounds_toArray, List.set_cons_zero, List.set_cons_succ]
        refine Held.only (k := 11) (i := 11) (by kernel_rfl) (by kernel_rfl) rfl (by kernel_rfl) (fun K hK => ?_)
        go_simp
        go_at_call 14
        with_reducible refine (Get8_is n c A l _ hl x y g1 g2 g3 g4 g5 HG).mono ?_
        rintro e w5 ⟨rfl, hbx⟩
        replace z0 := cell_below hbx z0
        replace z1 := cell_below hbx z1
        replace hl := hl.below hbx
        replace hb := hcall hb hbx
        replace ha := hcall ha hbx
        replace r1 := r1.below hbx
        replace D := below_call D hbx
        refine hK.out _ _ (by (try dsimp only); (exact ⟨z0, z1⟩)) (fun hHeld => ?_)
        clear hK K
        try simp only [Act.put, List.getElem_toArray, List.getElem_cons_succ, List.getElem_cons_zero, List.setIfInBounds_toArray, List.set_cons_zero, List.set_cons_succ]
        iterate 12
          refine Held.tk (v := ?_) rgrade rfl rfl rfl (fun _ _ _ h => h) (by assumption) (Or.inl ⟨by kernel_rfl, ?_⟩) ?_
          rotate_left
          · (intro w hSw; (try dsimp only at hSw); go_simp; (try (first | with_reducible rfl | rw [if_neg (by omega)])))
          try simp only [Act.put, List.getElem_toArray, List.getElem_cons_succ, List.getElem_cons_zero, List.setIfInBounds_toArray, List.set_cons_zero, List.set_cons_succ]
        refine Held.only (k := 24) (i := 19) (by kernel_rfl) (by kernel_rfl) rfl (by kernel_rfl) (fun K hK => ?_)
        go_simp
        go_at_call 19
        with_reducible refine (Sees8_is nr c1 A1 r _ r1 x y sb HSR).mono ?_
        rintro e w6 ⟨rfl, hbx⟩
        replace z0 := cell_below hbx z0
        replace z1 := cell_below hbx z1
        replace hl := hl.below hbx
        replace hb := hcall hb hbx
        replace ha := hcall ha hbx
        replace r1 := r1.below hbx
        replace D := below_call D hbx
        refine hK.out _ _ (by (try dsimp only); (exact ⟨z0, z1⟩)) (fun hHeld => ?_)
        clear hK K
        try simp only [Act.put, List.getElem_toArray, List.getElem_cons_succ, List.getElem_cons_zero, List.setIfInBounds_toArray, List.set_cons_zero, List.set_cons_succ]
        refine Held.only (k := 25) (i := 25) (by kernel_rfl) (by kernel_rfl) rfl (by kernel_rfl) (fun K hK => ?_)
        go_simp
        go_at_call 19
        with_reducible refine (Sees8_is n c A l _ hl x y sb HS).mono ?_
        rintro e w7 ⟨rfl, hbx⟩
        replace z0 := cell_below hbx z0
        replace z1 := cell_below hbx z1
        replace hl := hl.below hbx
        replace hb := hcall hb hbx
        replace ha := hcall ha hbx
        replace r1 := r1.below hbx
        replace D := below_call D hbx
        refine hK.out _ _ (by (try dsimp only); (exact ⟨z0, z1⟩)) (fun hHeld => ?_)
        clear hK K
        try simp only [Act.put, List.getElem_toArray, List.getElem_cons_succ, List.getElem_cons_zero, List.setIfInBounds_toArray, List.set_cons_zero, List.set_cons_succ]
        iterate 2
          refine Held.tk (v := ?_) rgrade rfl rfl rfl (fun _ _ _ h => h) (by assumption) (Or.inl ⟨by kernel_rfl, ?_⟩) ?_
          rotate_left
          · (intro w hSw; (try dsimp only at hSw); go_simp; (try (first | with_reducible rfl | rw [if_neg (by omega)])))
          try simp only [Act.put, List.getElem_toArray, List.getElem_cons_succ, List.getElem_cons_zero, List.setIfInBounds_toArray, List.set_cons_zero, List.set_cons_succ]
        refine wpAnyH_done (by kernel_rfl) ?_ _
        clear z0 z1
        clear y0 y1 y2 yz zz
        obtain ⟨y0, y1, y2, yz⟩ := cellsMv k p q hb
        obtain ⟨z0, z1, zz⟩ := cellsA2 ha
        replace hl : Row _ _ w7.drew _ _ := hl
        replace hb : w7.drew.heap[_]? = _ := hb
        replace ha : w7.drew.heap[_]? = _ := ha
        replace r1 : Row _ _ w7.drew _ _ := r1
        replace D : Below _ _ w7.drew := D.drew
        go_wp2_with fail
        refine Held.start (ops := opsradf) (S := fun w' => w'.cell? ⟨w.heap.size + 1, 0, none⟩ = some (.string x) ∧ w'.cell? ⟨w.heap.size + 1, 1, none⟩ = some (.string y)) ordradf 24 (by kernel_rfl) rgradf.siz (by kernel_rfl) ⟨z0, z1⟩ (fun hHeld => ?_)
        iterate 6
          refine Held.tk (v := ?_) rgradf rfl rfl rfl (fun _ _ _ h => h) (by assumption) (Or.inl ⟨by kernel_rfl, ?_⟩) ?_
          rotate_left
          · (intro w hSw; (try dsimp only at hSw); go_simp; (try (first | with_reducible rfl | rw [if_neg (by omega)])))
          try simp only [Act.put, List.getElem_toArray, List.getElem_cons_succ, List.getElem_cons_zero, List.setIfInBounds_toArray, List.set_cons_zero, List.set_cons_succ]
        refine Held.only (k := 6) (i := 3) (by kernel_rfl) (by kernel_rfl) rfl (by kernel_rfl) (fun K hK => ?_)
        go_simp
        go_at_call 17
        with_reducible refine (Of8_is nr c1 A1 r _ r1 x os hnr1 HOR).mono ?_
        rintro e w8 ⟨va, rfl, s1, hbx⟩
        obtain ⟨Aa, ca, rfl⟩ := s1.form8 _ rfl
        replace z0 := cell_below hbx z0
        replace z1 := cell_below hbx z1
        replace hl := hl.below hbx
        replace hb := hcall hb hbx
        replace ha := hcall ha hbx
        replace r1 := r1.below hbx
        replace D := below_call D hbx
        refine hK.out _ _ (by (try dsimp only); (exact ⟨z0, z1⟩)) (fun hHeld => ?_)
        clear hK K
        try simp only [Act.put, List.getElem_toArray, List.getElem_cons_succ, List.getElem_cons_zero, List.setIfInBounds_toArray, List.set_cons_zero, List.set_cons_succ]
        refine Held.only (k := 7) (i := 7) (by kernel_rfl) (by kernel_rfl) rfl (by kernel_rfl) (fun K hK => ?_)
        go_simp
        go_at_call 17
        with_reducible refine (Of8_is n c A l _ hl x os hn1 HO).mono ?_
        rintro e w9 ⟨vb, rfl, s2, hbx⟩
        obtain ⟨Ab, cb, rfl⟩ := s2.form8 _ rfl
        replace z0 := cell_below hbx z0
        replace z1 := cell_below hbx z1
        replace hl := hl.below hbx
        replace hb := hcall hb hbx
        replace ha := hcall ha hbx
        replace r1 := r1.below hbx
        replace s1 := s1.below hbx
        replace D := below_call D hbx
        refine hK.out _ _ (by (try dsimp only); (exact ⟨z0, z1⟩)) (fun hHeld => ?_)
        clear hK K
        try simp only [Act.put, List.getElem_toArray, List.getElem_cons_succ, List.getElem_cons_zero, List.setIfInBounds_toArray, List.set_cons_zero, List.set_cons_succ]
        refine Held.only (k := 8) (i := 8) (by kernel_rfl) (by kernel_rfl) rfl (by kernel_rfl) (fun K hK => ?_)
        go_simp
        go_at_call 16
        with_reducible refine (re_ (refSame_calls _ _ _ _ _ _ os os _ s1 s2) (ret_bool (decide_eq_true rfl))).mono ?_
        rintro e w10 ⟨rfl, hbx⟩
        replace z0 := cell_below hbx z0
        replace z1 := cell_below hbx z1
        replace hl := hl.below hbx
        replace hb := hcall hb hbx
        replace ha := hcall ha hbx
        replace r1 := r1.below hbx
        replace s1 := s1.below hbx
        replace s2 := s2.below hbx
        replace D := below_call D hbx
        clear s1 s2
        refine hK.out _ _ (by (try dsimp only); (exact ⟨z0, z1⟩)) (fun hHeld => ?_)
        clear hK K
        try simp only [Act.put, List.getElem_toArray, List.getElem_cons_succ, List.getElem_cons_zero, List.setIfInBounds_toArray, List.set_cons_zero, List.set_cons_succ]
        iterate 7
          refine Held.tk (v := ?_) rgradf rfl rfl rfl (fun _ _ _ h => h) (by assumption) (Or.inl ⟨by kernel_rfl, ?_⟩) ?_
          rotate_left
          · (intro w hSw; (try dsimp only at hSw); go_simp; (try (first | with_reducible rfl | rw [if_neg (by omega)])))
          try simp only [Act.put, List.getElem_toArray, List.getElem_cons_succ, List.getElem_cons_zero, List.setIfInBounds_toArray, List.set_cons_zero, List.set_cons_succ]
        refine Held.only (k := 16) (i := 13) (by kernel_rfl) (by kernel_rfl) rfl (by kernel_rfl) (fun K hK => ?_)
        go_simp
        go_at_call 21
        with_reducible refine (Watch8_is nr c1 A1 r _ r1 x ws hnr1 HWR).mono ?_
        rintro e w11 ⟨vc, rfl, s1, hbx⟩
        obtain ⟨Aa, ca, rfl⟩ := s1.form8 _ rfl
        replace z0 := cell_below hbx z0
        replace z1 := cell_below hbx z1
        replace hl := hl.below hbx
        replace hb := hcall hb hbx
        replace ha := hcall ha hbx
        replace r1 := r1.below hbx
        replace D := below_call D hbx
        refine hK.out _ _ (by (try dsimp only); (exact ⟨z0, z1⟩)) (fun hHeld => ?_)
        clear hK K
        try simp only [Act.put, List.getElem_toArray, List.getElem_cons_succ, List.getElem_cons_zero, List.setIfInBounds_toArray, List.set_cons_zero, List.set_cons_succ]
        refine Held.only (k := 17) (i := 17) (by kernel_rfl) (by kernel_rfl) rfl (by kernel_rfl) (fun K hK => ?_)
        go_simp
        go_at_call 21
        with_reducible refine (Watch8_is n c A l _ hl x ws hn1 HW).mono ?_
        rintro e w12 ⟨vd, rfl, s2, hbx⟩
        obtain ⟨Ab, cb, rfl⟩ := s2.form8 _ rfl
        replace z0 := cell_below hbx z0
        replace z1 := cell_below hbx z1
        replace hl := hl.below hbx
        replace hb := hcall hb hbx
        replace ha := hcall ha hbx
        replace r1 := r1.below hbx
        replace s1 := s1.below hbx
        replace D := below_call D hbx
        refine hK.out _ _ (by (try dsimp only); (exact ⟨z0, z1⟩)) (fun hHeld => ?_)
        clear hK K
        try simp only [Act.put, List.getElem_toArray, List.getElem_cons_succ, List.getElem_cons_zero, List.setIfInBounds_toArray, List.set_cons_zero, List.set_cons_succ]
        refine Held.only (k := 18) (i := 18) (by kernel_rfl) (by kernel_rfl) rfl (by kernel_rfl) (fun K hK => ?_)
        go_simp
        go_at_call 16
        with_reducible refine (re_ (refSame_calls _ _ _ _ _ _ ws ws _ s1 s2) (ret_bool (decide_eq_true rfl))).mono ?_
        rintro e w13 ⟨rfl, hbx⟩
        replace z0 := cell_below hbx z0
        replace z1 := cell_below hbx z1
        replace hl := hl.below hbx
        replace hb := hcall hb hbx
        replace ha := hcall ha hbx
        replace r1 := r1.below hbx
        replace s1 := s1.below hbx
        replace s2 := s2.below hbx
        replace D := below_call D hbx
        clear s1 s2
        refine hK.out _ _ (by (try dsimp only); (exact ⟨z0, z1⟩)) (fun hHeld => ?_)
        clear hK K
        try simp only [Act.put, List.getElem_toArray, List.getElem_cons_succ, List.getElem_cons_zero, List.setIfInBounds_toArray, List.set_cons_zero, List.set_cons_succ]
        iterate 2
          refine Held.tk (v := ?_) rgradf rfl rfl rfl (fun _ _ _ h => h) (by assumption) (Or.inl ⟨by kernel_rfl, ?_⟩) ?_
          rotate_left
          · (intro w hSw; (try dsimp only at hSw); go_simp; (try (first | with_reducible rfl | rw [if_neg (by omega)])))
          try simp only [Act.put, List.getElem_toArray, List.getElem_cons_succ, List.getElem_cons_zero, List.setIfInBounds_toArray, List.set_cons_zero, List.set_cons_succ]
        refine Held.only (k := 21) (i := 21) (by kernel_rfl) (by kernel_rfl) rfl (by kernel_rfl) (fun K hK => ?_)
        go_simp
        go_at_call 11
        with_reducible refine (live08 _).mono ?_
        rintro e w14 ⟨rfl, hbx⟩
        replace z0 := cell_below hbx z0
        replace z1 := cell_below hbx z1
        replace hl := hl.below hbx
        replace hb := hcall hb hbx
        replace ha := hcall ha hbx
        replace r1 := r1.below hbx
        replace D := below_call D hbx
        refine hK.out _ _ (by (try dsimp only); (exact ⟨z0, z1⟩)) (fun hHeld => ?_)
        clear hK K
        try simp only [Act.put, List.getElem_toArray, List.getElem_cons_succ, List.getElem_cons_zero, List.setIfInBounds_toArray, List.set_cons_zero, List.set_cons_succ]
        iterate 2
          refine Held.tk (v := ?_) rgradf rfl rfl rfl (fun _ _ _ h => h) (by assumption) (Or.inl ⟨by kernel_rfl, ?_⟩) ?_
          rotate_left
          · (intro w hSw; (try dsimp only at hSw); go_simp; (try (first | with_reducible rfl | rw [if_neg (by omega)])))
          try simp only [Act.put, List.getElem_toArray, List.getElem_cons_succ, List.getElem_cons_zero, List.setIfInBounds_toArray, List.set_cons_zero, List.set_cons_succ]
        refine wpAnyH_done (by kernel_rfl) ?_ _
        clear z0 z1
        go_wp2
        go_ret
        exact ⟨rfl, D⟩
    · have eyp1 : (y.toList == p.toList) = false := by simpa [toList_inj'] using eyp
      have eyp2 : ¬ y.toList = p.toList := by simpa [toList_inj'] using eyp
      have h1 : ¬ (x = p ∧ y = q) := fun e => exp e.1
      have h2 : ¬ (y = p ∧ x = q) := fun e => eyp e.1
      by_cases exq : x = q
      · have exq1 : (x.toList == q.toList) = true := by rw [exq]; exact beq_self_eq_true _
        obtain ⟨⟨g1, g2, g3, g4, g5⟩, hg⟩ : ∃ i, getRo l x y = i := ⟨_, rfl⟩
        obtain ⟨sb, hsb⟩ : ∃ b, seesRo l x y = b := ⟨_, rfl⟩
        have HG := Lib.hid hg
        have HGR := Lib.hid ((others_get hml hr h1 h2).trans hg)
        have HS := Lib.hid hsb
        have HSR := Lib.hid ((others_sees hml hr h1 h2).trans hsb)
        have hci := neqIt g1 g2 g3 g4 g5 g1 g2 g3 g4 g5
        rw [eqvIt, decide_eq_true rfl, Bool.not_true] at hci
        have hcb : (sb != sb) = false := by simp
        clear hg hsb
        clear hr
        clear h1 h2
        clear hml exp eyp exq
        go_enter Try.func6, Try.ntmps6
        go_wp2_with fail
        with_reducible refine (few8_is n c A l _ hl true hz H).mono ?_
        rintro e w1 ⟨rfl, b1⟩
        replace hl := hl.below b1
        replace hb := hcall hb b1
        replace ha := hcall ha b1
        replace D := below_call D b1
        clear b1
        go_wp2_with fail
        with_reducible refine (refMay8_is n c A l _ hl true hs hn1 HM).mono ?_
        rintro e w2 ⟨rfl, b2⟩
        replace hl := hl.below b2
        replace hb := hcall hb b2
        replace ha := hcall ha b2
        replace D := below_call D b2
        clear b2
        obtain ⟨y0, y1, y2, yz⟩ := cellsMv k p q hb
        obtain ⟨z0, z1, zz⟩ := cellsA2 ha
        go_wp2_with fail
        with_reducible refine (Do8_is n c A l _ hl k p q r 0 hs hn hp' hq' HR).mono ?_
        rintro e w3 ⟨v1, rfl, r1, b3⟩
        replace hl := hl.below b3
        replace hb := hcall hb b3
        replace ha := hcall ha b3
        replace D := below_call D b3
        clear b3 y0 y1 y2 yz z0 z1 zz
        obtain ⟨A1, c1, rfl⟩ := Row.form8 r1 nr HN.out
        obtain ⟨y0, y1, y2, yz⟩ := cellsMv k p q hb
        obtain ⟨z0, z1, zz⟩ := cellsA2 ha
        replace hl : Row _ _ w3.drew _ _ := hl
        replace hb : w3.drew.heap[_]? = _ := hb
        replace ha : w3.drew.heap[_]? = _ := ha
        replace r1 : Row _ _ w3.drew _ _ := r1
        replace D : Below _ _ w3.drew := D.drew
        go_wp2_with fail
        refine Held.start (ops := opsraee) (S := fun w' => w'.cell? ⟨w.heap.size + 1, 0, none⟩ = some (.string x) ∧ w'.cell? ⟨w.heap.size + 1, 1, none⟩ = some (.string y)) ordraee 28 (by kernel_rfl) rgraee.siz (by kernel_rfl) ⟨z0, z1⟩ (fun hHeld => ?_)
        iterate 10
          refine Held.tk (v := ?_) rgraee rfl rfl rfl (fun _ _ _ h => h) (by assumption) (Or.inl ⟨by kernel_rfl, ?_⟩) ?_
          rotate_left
          · (intro w hSw; (try dsimp only at hSw); go_simp; (try (first | with_reducible rfl | rw [if_neg (by omega)])))
          try simp only [Act.put, List.getElem_toArray, List.getElem_cons_succ, List.getElem_cons_zero, List.setIfInBounds_toArray, List.set_cons_zero, List.set_cons_succ]
        refine Held.only (k := 10) (i := 5) (by kernel_rfl) (by kernel_rfl) rfl (by kernel_rfl) (fun K hK => ?_)
        go_simp
        go_at_call 14
        with_reducible refine (Get8_is nr c1 A1 r _ r1 x y g1 g2 g3 g4 g5 HGR).mono ?_
        rintro e w4 ⟨rfl, hbx⟩
        replace z0 := cell_below hbx z0
        replace z1 := cell_below hbx z1
        replace hl := hl.below hbx
        replace hb := hcall hb hbx
        replace ha := hcall ha hbx
        replace r1 := r1.below hbx
        replace D := below_call D hbx
        refine hK.out _ _ (by (try dsimp only); (exact ⟨z0, z1⟩)) (fun hHeld => ?_)
        clear hK K
        try simp only [Act.put, List.getElem_toArray, List.getElem_cons_succ, List.getElem_cons_zero, List.setIfInBounds_toArray, List.set_cons_zero, List.set_cons_succ]
        refine Held.only (k := 11) (i := 11) (by kernel_rfl) (by kernel_rfl) rfl (by kernel_rfl) (fun K hK => ?_)
        go_simp
        go_at_call 14
        with_reducible refine (Get8_is n c A l _ hl x y g1 g2 g3 g4 g5 HG).mono ?_
        rintro e w5 ⟨rfl, hbx⟩
        replace z0 := cell_below hbx z0
        replace z1 := cell_below hbx z1
        replace hl := hl.below hbx
        replace hb := hcall hb hbx
        replace ha := hcall ha hbx
        replace r1 := r1.below hbx
        replace D := below_call D hbx
        refine hK.out _ _ (by (try dsimp only); (exact ⟨z0, z1⟩)) (fun hHeld => ?_)
        clear hK K
        try simp only [Act.put, List.getElem_toArray, List.getElem_cons_succ, List.getElem_cons_zero, List.setIfInBounds_toArray, List.set_cons_zero, List.set_cons_succ]
        iterate 12
          refine Held.tk (v := ?_) rgraee rfl rfl rfl (fun _ _ _ h => h) (by assumption) (Or.inl ⟨by kernel_rfl, ?_⟩) ?_
          rotate_left
          · (intro w hSw; (try dsimp only at hSw); go_simp; (try (first | with_reducible rfl | rw [if_neg (by omega)])))
          try simp only [Act.put, List.getElem_toArray, List.getElem_cons_succ, List.getElem_cons_zero, List.setIfInBounds_toArray, List.set_cons_zero, List.set_cons_succ]
        refine Held.only (k := 24) (i := 19) (by kernel_rfl) (by kernel_rfl) rfl (by kernel_rfl) (fun K hK => ?_)
        go_simp
        go_at_call 19
        with_reducible refine (Sees8_is nr c1 A1 r _ r1 x y sb HSR).mono ?_
        rintro e w6 ⟨rfl, hbx⟩
        replace z0 := cell_below hbx z0
        replace z1 := cell_below hbx z1
        replace hl := hl.below hbx
        replace hb := hcall hb hbx
        replace ha := hcall ha hbx
        replace r1 := r1.below hbx
        replace D := below_call D hbx
        refine hK.out _ _ (by (try dsimp only); (exact ⟨z0, z1⟩)) (fun hHeld => ?_)
        clear hK K
        try simp only [Act.put, List.getElem_toArray, List.getElem_cons_succ, List.getElem_cons_zero, List.setIfInBounds_toArray, List.set_cons_zero, List.set_cons_succ]
        refine Held.only (k := 25) (i := 25) (by kernel_rfl) (by kernel_rfl) rfl (by kernel_rfl) (fun K hK => ?_)
        go_simp
        go_at_call 19
        with_reducible refine (Sees8_is n c A l _ hl x y sb HS).mono ?_
        rintro e w7 ⟨rfl, hbx⟩
        replace z0 := cell_below hbx z0
        replace z1 := cell_below hbx z1
        replace hl := hl.below hbx
        replace hb := hcall hb hbx
        replace ha := hcall ha hbx
        replace r1 := r1.below hbx
        replace D := below_call D hbx
        refine hK.out _ _ (by (try dsimp only); (exact ⟨z0, z1⟩)) (fun hHeld => ?_)
        clear hK K
        try simp only [Act.put, List.getElem_toArray, List.getElem_cons_succ, List.getElem_cons_zero, List.setIfInBounds_toArray, List.set_cons_zero, List.set_cons_succ]
        iterate 2
          refine Held.tk (v := ?_) rgraee rfl rfl rfl (fun _ _ _ h => h) (by assumption) (Or.inl ⟨by kernel_rfl, ?_⟩) ?_
          rotate_left
          · (intro w hSw; (try dsimp only at hSw); go_simp; (try (first | with_reducible rfl | rw [if_neg (by omega)])))
          try simp only [Act.put, List.getElem_toArray, List.getElem_cons_succ, List.getElem_cons_zero, List.setIfInBounds_toArray, List.set_cons_zero, List.set_cons_succ]
        refine wpAnyH_done (by kernel_rfl) ?_ _
        clear z0 z1
        clear y0 y1 y2 yz zz
        obtain ⟨y0, y1, y2, yz⟩ := cellsMv k p q hb
        obtain ⟨z0, z1, zz⟩ := cellsA2 ha
        go_wp2_with fail
        with_reducible refine (live08 _).mono ?_
        rintro e w8 ⟨rfl, b8⟩
        replace hl := hl.below b8
        replace hb := hcall hb b8
        replace ha := hcall ha b8
        replace r1 := r1.below b8
        replace D := below_call D b8
        clear b8 y0 y1 y2 yz z0 z1 zz
        go_wp2
        go_ret
        exact ⟨rfl, D⟩
      · have exq1 : (x.toList == q.toList) = false := by simpa [toList_inj'] using exq
        have exq2 : ¬ x.toList = q.toList := by simpa [toList_inj'] using exq
        obtain ⟨⟨g1, g2, g3, g4, g5⟩, hg⟩ : ∃ i, getRo l x y = i := ⟨_, rfl⟩
        obtain ⟨sb, hsb⟩ : ∃ b, seesRo l x y = b := ⟨_, rfl⟩
        have HG := Lib.hid hg
        have HGR := Lib.hid ((others_get hml hr h1 h2).trans hg)
        have HS := Lib.hid hsb
        have HSR := Lib.hid ((others_sees hml hr h1 h2).trans hsb)
        have hci := neqIt g1 g2 g3 g4 g5 g1 g2 g3 g4 g5
        rw [eqvIt, decide_eq_true rfl, Bool.not_true] at hci
        have hcb : (sb != sb) = false := by simp
        clear hg hsb
        clear h1 h2
        obtain ⟨os, hos⟩ : ∃ v, ofRo l x = v := ⟨_, rfl⟩
        obtain ⟨ws, hws⟩ : ∃ v, watchRo l x = v := ⟨_, rfl⟩
        have HO := Lib.hid hos
        have HOR := Lib.hid ((others_of hr exp exq).trans hos)
        have HW := Lib.hid hws
        have HWR := Lib.hid ((others_watch hml hr exp exq).trans hws)
        clear hos hws hr
        clear hml exp eyp exq
        go_enter Try.func6, Try.ntmps6
        go_wp2_with fail
        with_reducible refine (few8_is n c A l _ hl true hz H).mono ?_
        rintro e w1 ⟨rfl, b1⟩
        replace hl := hl.below b1
        replace hb := hcall hb b1
        replace ha := hcall ha b1
        replace D := below_call D b1
        clear b1
        go_wp2_with fail
        with_reducible refine (refMay8_is n c A l _ hl true hs hn1 HM).mono ?_
        rintro e w2 ⟨rfl, b2⟩
        replace hl := hl.below b2
        replace hb := hcall hb b2
        replace ha := hcall ha b2
        replace D := below_call D b2
        clear b2
        obtain ⟨y0, y1, y2, yz⟩ := cellsMv k p q hb
        obtain ⟨z0, z1, zz⟩ := cellsA2 ha
        go_wp2_with fail
        with_reducible refine (Do8_is n c A l _ hl k p q r 0 hs hn hp' hq' HR).mono ?_
        rintro e w3 ⟨v1, rfl, r1, b3⟩
        replace hl := hl.below b3
        replace hb := hcall hb b3
        replace ha := hcall ha b3
        replace D := below_call D b3
        clear b3 y0 y1 y2 yz z0 z1 zz
        obtain ⟨A1, c1, rfl⟩ := Row.form8 r1 nr HN.out
        obtain ⟨y0, y1, y2, yz⟩ := cellsMv k p q hb
        obtain ⟨z0, z1, zz⟩ := cellsA2 ha
        replace hl : Row _ _ w3.drew _ _ := hl
        replace hb : w3.drew.heap[_]? = _ := hb
        replace ha : w3.drew.heap[_]? = _ := ha
        replace r1 : Row _ _ w3.drew _ _ := r1
        replace D : Below _ _ w3.drew := D.drew
        go_wp2_with fail
        refine Held.start (ops := opsrafe) (S := fun w' => w'.cell? ⟨w.heap.size + 1, 0, none⟩ = some (.string x) ∧ w'.cell? ⟨w.heap.size + 1, 1, none⟩ = some (.string y)) ordrafe 28 (by kernel_rfl) rgrafe.siz (by kernel_rfl) ⟨z0, z1⟩ (fun hHeld => ?_)
        iterate 10
          refine Held.tk (v := ?_) rgrafe rfl rfl rfl (fun _ _ _ h => h) (by assumption) (Or.inl ⟨by kernel_rfl, ?_⟩) ?_
          rotate_left
          · (intro w hSw; (try dsimp only at hSw); go_simp; (try (first | with_reducible rfl | rw [if_neg (by omega)])))
          try simp only [Act.put, List.getElem_toArray, List.getElem_cons_succ, List.getElem_cons_zero, List.setIfInBounds_toArray, List.set_cons_zero, List.set_cons_succ]
        refine Held.only (k := 10) (i := 5) (by kernel_rfl) (by kernel_rfl) rfl (by kernel_rfl) (fun K hK => ?_)
        go_simp
        go_at_call 14
        with_reducible refine (Get8_is nr c1 A1 r _ r1 x y g1 g2 g3 g4 g5 HGR).mono ?_
        rintro e w4 ⟨rfl, hbx⟩
        replace z0 := cell_below hbx z0
        replace z1 := cell_below hbx z1
        replace hl := hl.below hbx
        replace hb := hcall hb hbx
        replace ha := hcall ha hbx
        replace r1 := r1.below hbx
        replace D := below_call D hbx
        refine hK.out _ _ (by (try dsimp only); (exact ⟨z0, z1⟩)) (fun hHeld => ?_)
        clear hK K
        try simp only [Act.put, List.getElem_toArray, List.getElem_cons_succ, List.getElem_cons_zero, List.setIfInBounds_toArray, List.set_cons_zero, List.set_cons_succ]
        refine Held.only (k := 11) (i := 11) (by kernel_rfl) (by kernel_rfl) rfl (by kernel_rfl) (fun K hK => ?_)
        go_simp
        go_at_call 14
        with_reducible refine (Get8_is n c A l _ hl x y g1 g2 g3 g4 g5 HG).mono ?_
        rintro e w5 ⟨rfl, hbx⟩
        replace z0 := cell_below hbx z0
        replace z1 := cell_below hbx z1
        replace hl := hl.below hbx
        replace hb := hcall hb hbx
        replace ha := hcall ha hbx
        replace r1 := r1.below hbx
        replace D := below_call D hbx
        refine hK.out _ _ (by (try dsimp only); (exact ⟨z0, z1⟩)) (fun hHeld => ?_)
        clear hK K
        try simp only [Act.put, List.getElem_toArray, List.getElem_cons_succ, List.getElem_cons_zero, List.setIfInBounds_toArray, List.set_cons_zero, List.set_cons_succ]
        iterate 12
          refine Held.tk (v := ?_) rgrafe rfl rfl rfl (fun _ _ _ h => h) (by assumption) (Or.inl ⟨by kernel_rfl, ?_⟩) ?_
          rotate_left
          · (intro w hSw; (try dsimp only at hSw); go_simp; (try (first | with_reducible rfl | rw [if_neg (by omega)])))
          try simp only [Act.put, List.getElem_toArray, List.getElem_cons_succ, List.getElem_cons_zero, List.setIfInBounds_toArray, List.set_cons_zero, List.set_cons_succ]
        refine Held.only (k := 24) (i := 19) (by kernel_rfl) (by kernel_rfl) rfl (by kernel_rfl) (fun K hK => ?_)
        go_simp
        go_at_call 19
        with_reducible refine (Sees8_is nr c1 A1 r _ r1 x y sb HSR).mono ?_
        rintro e w6 ⟨rfl, hbx⟩
        replace z0 := cell_below hbx z0
        replace z1 := cell_below hbx z1
        replace hl := hl.below hbx
        replace hb := hcall hb hbx
        replace ha := hcall ha hbx
        replace r1 := r1.below hbx
        replace D := below_call D hbx
        refine hK.out _ _ (by (try dsimp only); (exact ⟨z0, z1⟩)) (fun hHeld => ?_)
        clear hK K
        try simp only [Act.put, List.getElem_toArray, List.getElem_cons_succ, List.getElem_cons_zero, List.setIfInBounds_toArray, List.set_cons_zero, List.set_cons_succ]
        refine Held.only (k := 25) (i := 25) (by kernel_rfl) (by kernel_rfl) rfl (by kernel_rfl) (fun K hK => ?_)
        go_simp
        go_at_call 19
        with_reducible refine (Sees8_is n c A l _ hl x y sb HS).mono ?_
        rintro e w7 ⟨rfl, hbx⟩
        replace z0 := cell_below hbx z0
        replace z1 := cell_below hbx z1
        replace hl := hl.below hbx
        replace hb := hcall hb hbx
        replace ha := hcall ha hbx
        replace r1 := r1.below hbx
        replace D := below_call D hbx
        refine hK.out _ _ (by (try dsimp only); (exact ⟨z0, z1⟩)) (fun hHeld => ?_)
        clear hK K
        try simp only [Act.put, List.getElem_toArray, List.getElem_cons_succ, List.getElem_cons_zero, List.setIfInBounds_toArray, List.set_cons_zero, List.set_cons_succ]
        iterate 2
          refine Held.tk (v := ?_) rgrafe rfl rfl rfl (fun _ _ _ h => h) (by assumption) (Or.inl ⟨by kernel_rfl, ?_⟩) ?_
          rotate_left
          · (intro w hSw; (try dsimp only at hSw); go_simp; (try (first | with_reducible rfl | rw [if_neg (by omega)])))
          try simp only [Act.put, List.getElem_toArray, List.getElem_cons_succ, List.getElem_cons_zero, List.setIfInBounds_toArray, List.set_cons_zero, List.set_cons_succ]
        refine wpAnyH_done (by kernel_rfl) ?_ _
        clear z0 z1
        clear y0 y1 y2 yz zz
        obtain ⟨y0, y1, y2, yz⟩ := cellsMv k p q hb
        obtain ⟨z0, z1, zz⟩ := cellsA2 ha
        replace hl : Row _ _ w7.drew _ _ := hl
        replace hb : w7.drew.heap[_]? = _ := hb
        replace ha : w7.drew.heap[_]? = _ := ha
        replace r1 : Row _ _ w7.drew _ _ := r1
        replace D : Below _ _ w7.drew := D.drew
        go_wp2_with fail
        refine Held.start (ops := opsraff) (S := fun w' => w'.cell? ⟨w.heap.size + 1, 0, none⟩ = some (.string x) ∧ w'.cell? ⟨w.heap.size + 1, 1, none⟩ = some (.string y)) ordraff 24 (by kernel_rfl) rgraff.siz (by kernel_rfl) ⟨z0, z1⟩ (fun hHeld => ?_)
        iterate 6
          refine Held.tk (v := ?_) rgraff rfl rfl rfl (fun _ _ _ h => h) (by assumption) (Or.inl ⟨by kernel_rfl, ?_⟩) ?_
          rotate_left
          · (intro w hSw; (try dsimp only at hSw); go_simp; (try (first | with_reducible rfl | rw [if_neg (by omega)])))
          try simp only [Act.put, List.getElem_toArray, List.getElem_cons_succ, List.getElem_cons_zero, List.setIfInBounds_toArray, List.set_cons_zero, List.set_cons_succ]
        refine Held.only (k := 6) (i := 3) (by kernel_rfl) (by kernel_rfl) rfl (by kernel_rfl) (fun K hK => ?_)
        go_simp
        go_at_call 17
        with_reducible refine (Of8_is nr c1 A1 r _ r1 x os hnr1 HOR).mono ?_
        rintro e w8 ⟨va, rfl, s1, hbx⟩
        obtain ⟨Aa, ca, rfl⟩ := s1.form8 _ rfl
        replace z0 := cell_below hbx z0
        replace z1 := cell_below hbx z1
        replace hl := hl.below hbx
        replace hb := hcall hb hbx
        replace ha := hcall ha hbx
        replace r1 := r1.below hbx
        replace D := below_call D hbx
        refine hK.out _ _ (by (try dsimp only); (exact ⟨z0, z1⟩)) (fun hHeld => ?_)
        clear hK K
        try simp only [Act.put, List.getElem_toArray, List.getElem_cons_succ, List.getElem_cons_zero, List.setIfInBounds_toArray, List.set_cons_zero, List.set_cons_succ]
        refine Held.only (k := 7) (i := 7) (by kernel_rfl) (by kernel_rfl) rfl (by kernel_rfl) (fun K hK => ?_)
        go_simp
        go_at_call 17
        with_reducible refine (Of8_is n c A l _ hl x os hn1 HO).mono ?_
        rintro e w9 ⟨vb, rfl, s2, hbx⟩
        obtain ⟨Ab, cb, rfl⟩ := s2.form8 _ rfl
        replace z0 := cell_below hbx z0
        replace z1 := cell_below hbx z1
        replace hl := hl.below hbx
        replace hb := hcall hb hbx
        replace ha := hcall ha hbx
        replace r1 := r1.below hbx
        replace s1 := s1.below hbx
        replace D := below_call D hbx
        refine hK.out _ _ (by (try dsimp only); (exact ⟨z0, z1⟩)) (fun hHeld => ?_)
        clear hK K
        try simp only [Act.put, List.getElem_toArray, List.getElem_cons_succ, List.getElem_cons_zero, List.setIfInBounds_toArray, List.set_cons_zero, List.set_cons_succ]
        refine Held.only (k := 8) (i := 8) (by kernel_rfl) (by kernel_rfl) rfl (by kernel_rfl) (fun K hK => ?_)
        go_simp
        go_at_call 16
        with_reducible refine (re_ (refSame_calls _ _ _ _ _ _ os os _ s1 s2) (ret_bool (decide_eq_true rfl))).mono ?_
        rintro e w10 ⟨rfl, hbx⟩
        replace z0 := cell_below hbx z0
        replace z1 := cell_below hbx z1
        replace hl := hl.below hbx
        replace hb := hcall hb hbx
        replace ha := hcall ha hbx
        replace r1 := r1.below hbx
        replace s1 := s1.below hbx
        replace s2 := s2.below hbx
        replace D := below_call D hbx
        clear s1 s2
        refine hK.out _ _ (by (try dsimp only); (exact ⟨z0, z1⟩)) (fun hHeld => ?_)
        clear hK K
        try simp only [Act.put, List.getElem_toArray, List.getElem_cons_succ, List.getElem_cons_zero, List.setIfInBounds_toArray, List.set_cons_zero, List.set_cons_succ]
        iterate 7
          refine Held.tk (v := ?_) rgraff rfl rfl rfl (fun _ _ _ h => h) (by assumption) (Or.inl ⟨by kernel_rfl, ?_⟩) ?_
          rotate_left
          · (intro w hSw; (try dsimp only at hSw); go_simp; (try (first | with_reducible rfl | rw [if_neg (by omega)])))
          try simp only [Act.put, List.getElem_toArray, List.getElem_cons_succ, List.getElem_cons_zero, List.setIfInBounds_toArray, List.set_cons_zero, List.set_cons_succ]
        refine Held.only (k := 16) (i := 13) (by kernel_rfl) (by kernel_rfl) rfl (by kernel_rfl) (fun K hK => ?_)
        go_simp
        go_at_call 21
        with_reducible refine (Watch8_is nr c1 A1 r _ r1 x ws hnr1 HWR).mono ?_
        rintro e w11 ⟨vc, rfl, s1, hbx⟩
        obtain ⟨Aa, ca, rfl⟩ := s1.form8 _ rfl
        replace z0 := cell_below hbx z0
        replace z1 := cell_below hbx z1
        replace hl := hl.below hbx
        replace hb := hcall hb hbx
        replace ha := hcall ha hbx
        replace r1 := r1.below hbx
        replace D := below_call D hbx
        refine hK.out _ _ (by (try dsimp only); (exact ⟨z0, z1⟩)) (fun hHeld => ?_)
        clear hK K
        try simp only [Act.put, List.getElem_toArray, List.getElem_cons_succ, List.getElem_cons_zero, List.setIfInBounds_toArray, List.set_cons_zero, List.set_cons_succ]
        refine Held.only (k := 17) (i := 17) (by kernel_rfl) (by kernel_rfl) rfl (by kernel_rfl) (fun K hK => ?_)
        go_simp
        go_at_call 21
        with_reducible refine (Watch8_is n c A l _ hl x ws hn1 HW).mono ?_
        rintro e w12 ⟨vd, rfl, s2, hbx⟩
        obtain ⟨Ab, cb, rfl⟩ := s2.form8 _ rfl
        replace z0 := cell_below hbx z0
        replace z1 := cell_below hbx z1
        replace hl := hl.below hbx
        replace hb := hcall hb hbx
        replace ha := hcall ha hbx
        replace r1 := r1.below hbx
        replace s1 := s1.below hbx
        replace D := below_call D hbx
        refine hK.out _ _ (by (try dsimp only); (exact ⟨z0, z1⟩)) (fun hHeld => ?_)
        clear hK K
        try simp only [Act.put, List.getElem_toArray, List.getElem_cons_succ, List.getElem_cons_zero, List.setIfInBounds_toArray, List.set_cons_zero, List.set_cons_succ]
        refine Held.only (k := 18) (i := 18) (by kernel_rfl) (by kernel_rfl) rfl (by kernel_rfl) (fun K hK => ?_)
        go_simp
        go_at_call 16
        with_reducible refine (re_ (refSame_calls _ _ _ _ _ _ ws ws _ s1 s2) (ret_bool (decide_eq_true rfl))).mono ?_
        rintro e w13 ⟨rfl, hbx⟩
        replace z0 := cell_below hbx z0
        replace z1 := cell_below hbx z1
        replace hl := hl.below hbx
        replace hb := hcall hb hbx
        replace ha := hcall ha hbx
        replace r1 := r1.below hbx
        replace s1 := s1.below hbx
        replace s2 := s2.below hbx
        replace D := below_call D hbx
        clear s1 s2
        refine hK.out _ _ (by (try dsimp only); (exact ⟨z0, z1⟩)) (fun hHeld => ?_)
        clear hK K
        try simp only [Act.put, List.getElem_toArray, List.getElem_cons_succ, List.getElem_cons_zero, List.setIfInBounds_toArray, List.set_cons_zero, List.set_cons_succ]
        iterate 2
          refine Held.tk (v := ?_) rgraff rfl rfl rfl (fun _ _ _ h => h) (by assumption) (Or.inl ⟨by kernel_rfl, ?_⟩) ?_
          rotate_left
          · (intro w hSw; (try dsimp only at hSw); go_simp; (try (first | with_reducible rfl | rw [if_neg (by omega)])))
          try simp only [Act.put, List.getElem_toArray, List.getElem_cons_succ, List.getElem_cons_zero, List.setIfInBounds_toArray, List.set_cons_zero, List.set_cons_succ]
        refine Held.only (k := 21) (i := 21) (by kernel_rfl) (by kernel_rfl) rfl (by kernel_rfl) (fun K hK => ?_)
        go_simp
        go_at_call 11
        with_reducible refine (live08 _).mono ?_
        rintro e w14 ⟨rfl, hbx⟩
        replace z0 := cell_below hbx z0
        replace z1 := cell_below hbx z1
        replace hl := hl.below hbx
        replace hb := hcall hb hbx
        replace ha := hcall ha hbx
        replace r1 := r1.below hbx
        replace D := below_call D hbx
        refine hK.out _ _ (by (try dsimp only); (exact ⟨z0, z1⟩)) (fun hHeld => ?_)
        clear hK K
        try simp only [Act.put, List.getElem_toArray, List.getElem_cons_succ, List.getElem_cons_zero, List.setIfInBounds_toArray, List.set_cons_zero, List.set_cons_succ]
        iterate 2
          refine Held.tk (v := ?_) rgraff rfl rfl rfl (fun _ _ _ h => h) (by assumption) (Or.inl ⟨by kernel_rfl, ?_⟩) ?_
          rotate_left
          · (intro w hSw; (try dsimp only at hSw); go_simp; (try (first | with_reducible rfl | rw [if_neg (by omega)])))
          try simp only [Act.put, List.getElem_toArray, List.getElem_cons_succ, List.getElem_cons_zero, List.setIfInBounds_toArray, List.set_cons_zero, List.set_cons_succ]
        refine wpAnyH_done (by kernel_rfl) ?_ _
        clear z0 z1
        go_wp2
        go_ret
        exact ⟨rfl, D⟩
end Go.Proofs.Ytpmafghknafhaaa
