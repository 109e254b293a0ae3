/-
Contracts: whether states may be, and are the same; whom an event touches; short events.
-/
import Derived.Test.YtpmafghknafhaaaGreatStB
import Derived.Test.YtpmafghknafhaaaGreatEvSt
import Derived.Test.YtpmafghknafhaaaGreatRosQ
import Derived.Test.YtpmafghknafhaaaGreatSesL
import Derived.Deep.QuietTactic
import Derived.BigQuiet
set_option linter.unusedVariables false
set_option linter.unusedSimpArgs false
namespace Go.Proofs.YtpmafghknafhaaaGreat
open Go.RowKit
open Sp
set_option maxHeartbeats 8000000 in
set_option maxRecDepth 100000 in
theorem equalEn_calls (n c n2 c2 : Nat) (A B : Option Addr) (l m : List En) (w : World) (hl : Row enEn 7 w (.slice A n c) l) (hm : Row enEn 7 w (.slice B n2 c2) m) :
    Calls Tryz.prog 39 #[.slice A n c, .slice B n2 c2] w fun e w' => e = .returned (.bool (decide (l = m))) ∧ Below w.heap.size w w' := by
  have EA := Lib.hid hl.len_eq
  have EB := Lib.hid hm.len_eq
  have hnl : n ≤ 9223372036854775807 := by rw [EA.out]; exact hl.len
  obtain ⟨r, hr⟩ : ∃ r, decide (l = m) = r := ⟨_, rfl⟩
  rw [hr]
  have HR := Lib.hid hr
  clear hr
  by_cases hn : n = n2
  · subst hn
    go_enter Tryz.func39, Tryz.ntmps39
    go_wp2
    go_loopw [13] (fun v5 wr => ∃ i : Nat, v5 = .int .i64 i ∧ i ≤ n ∧ Below w.heap.size w wr ∧ Hid (l.take i = m.take i)) (fun v5 _ => (n - intOf v5).toNat)
    case atStart => exact ⟨0, rfl, Nat.zero_le _, Below.refl _ _, rfl⟩
    case round =>
      obtain ⟨i, rfl, hi, hB, HT⟩ := hrel
      by_cases hlt : i < n
      · have hil : i < l.length := by have := EA.out; omega
        have him : i < m.length := by have := EB.out; omega
        obtain ⟨⟨a_, b_, c_, d_, e_, f_, g_⟩, he⟩ : ∃ e, l[i] = e := ⟨_, rfl⟩
        obtain ⟨⟨a_', b_', c_', d_', e_', f_', g_'⟩, he'⟩ : ∃ e, m[i] = e := ⟨_, rfl⟩
        obtain ⟨ad, rfl, c0, c1, c2, c3, c4, c5, c6⟩ := rowEn (hl.below hB) i hil a_ b_ c_ d_ e_ f_ g_ he
        obtain ⟨bd, rfl, d0, d1, d2, d3, d4, d5, d6⟩ := rowEn (hm.below hB) i him a_' b_' c_' d_' e_' f_' g_' he'
        have HE := Lib.hid he
        have HE' := Lib.hid he'
        clear he he'
        have x1 : (0 : Int) ≤ (i : Int) := by omega
        have x2 : (i : Int) < (n : Int) := by omega
        have hcmp := neqEn a_ b_ c_ d_ e_ f_ g_ a_' b_' c_' d_' e_' f_' g_'
        rw [eqvEn] at hcmp
        obtain ⟨b, hb⟩ : ∃ b, decide ((⟨a_, b_, c_, d_, e_, f_, g_⟩ : En) = ⟨a_', b_', c_', d_', e_', f_', g_'⟩) = b := ⟨_, rfl⟩
        rw [hb] at hcmp
        have HB := Lib.hid hb
        clear hb
        cases b with
        | true =>
          have HEQ : Hid (l[i] = m[i]) := by show _ = _; rw [HE.out, HE'.out]; exact of_decide_eq_true HB.out
          go_wp2_with fail
          go_region
          have hB1 : Below w.heap.size w wr.drew := hB.drew
          go_wp2
          exact ⟨⟨i + 1, by go_num, by omega, hB1, by show _ = _; rw [List.take_succ_eq_append_getElem hil, List.take_succ_eq_append_getElem him, HT.out, HEQ.out]⟩, by simp [intOf]; omega⟩
        | false =>
          have HNE : Hid (r = false) := by
            show _ = _
            rw [← HR.out]
            refine decide_eq_false fun h => ?_
            subst h
            exact of_decide_eq_false HB.out (by rw [← HE.out, ← HE'.out])
          go_wp2_with fail
          go_region
          have hB1 : Below w.heap.size w wr.drew := hB.drew
          go_wp2
          go_ret
          rw [HNE.out]
          exact ⟨rfl, hB1⟩
      · have hin : i = n := by omega
        subst hin
        have HEQ : Hid (r = true) := by
          show _ = _
          rw [← HR.out]
          have h1 : l.take i = l := List.take_of_length_le (by rw [EA.out]; exact Nat.le_refl _)
          have h2 : m.take i = m := List.take_of_length_le (by rw [EB.out]; exact Nat.le_refl _)
          refine decide_eq_true ?_
          rw [← h1, ← h2]; exact HT.out
        go_wp2
        go_ret
        rw [HEQ.out]
        exact ⟨rfl, hB⟩
  · have HNE : Hid (r = false) := by
      show _ = _
      rw [← HR.out]
      refine decide_eq_false fun h => ?_
      have h1 := EA.out
      have h2 := EB.out
      rw [h] at h1
      omega
    have hnb : ((n : Int) == (n2 : Int)) = false := by simpa using (by omega : ¬ (n : Int) = n2)
    clear hn
    go_enter Tryz.func39, Tryz.ntmps39
    go_wp2
    go_ret
    rw [HNE.out]
    exact ⟨rfl, Below.refl _ _⟩
set_option maxHeartbeats 8000000 in
set_option maxRecDepth 100000 in
theorem equalSe_calls (n c n2 c2 : Nat) (A B : Option Addr) (l m : List Se) (w : World) (hl : Row enSe 6 w (.slice A n c) l) (hm : Row enSe 6 w (.slice B n2 c2) m) :
    Calls Tryz.prog 40 #[.slice A n c, .slice B n2 c2] w fun e w' => e = .returned (.bool (decide (l = m))) ∧ Below w.heap.size w w' := by
  have EA := Lib.hid hl.len_eq
  have EB := Lib.hid hm.len_eq
  have hnl : n ≤ 9223372036854775807 := by rw [EA.out]; exact hl.len
  obtain ⟨r, hr⟩ : ∃ r, decide (l = m) = r := ⟨_, rfl⟩
  rw [hr]
  have HR := Lib.hid hr
  clear hr
  by_cases hn : n = n2
  · subst hn
    go_enter Tryz.func40, Tryz.ntmps40
    go_wp2
    go_loopw [13] (fun v5 wr => ∃ i : Nat, v5 = .int .i64 i ∧ i ≤ n ∧ Below w.heap.size w wr ∧ Hid (l.take i = m.take i)) (fun v5 _ => (n - intOf v5).toNat)
    case atStart => exact ⟨0, rfl, Nat.zero_le _, Below.refl _ _, rfl⟩
    case round =>
      obtain ⟨i, rfl, hi, hB, HT⟩ := hrel
      by_cases hlt : i < n
      · have hil : i < l.length := by have := EA.out; omega
        have him : i < m.length := by have := EB.out; omega
        obtain ⟨⟨a_, b_, c_, d_, e_, f_⟩, he⟩ : ∃ e, l[i] = e := ⟨_, rfl⟩
        obtain ⟨⟨a_', b_', c_', d_', e_', f_'⟩, he'⟩ : ∃ e, m[i] = e := ⟨_, rfl⟩
        obtain ⟨ad, rfl, c0, c1, c2, c3, c4, c5⟩ := rowSe (hl.below hB) i hil a_ b_ c_ d_ e_ f_ he
        obtain ⟨bd, rfl, d0, d1, d2, d3, d4, d5⟩ := rowSe (hm.below hB) i him a_' b_' c_' d_' e_' f_' he'
        have HE := Lib.hid he
        have HE' := Lib.hid he'
        clear he he'
        have x1 : (0 : Int) ≤ (i : Int) := by omega
        have x2 : (i : Int) < (n : Int) := by omega
        have hcmp := neqSe a_ b_ c_ d_ e_ f_ a_' b_' c_' d_' e_' f_'
        rw [eqvSe] at hcmp
        obtain ⟨b, hb⟩ : ∃ b, decide ((⟨a_, b_, c_, d_, e_, f_⟩ : Se) = ⟨a_', b_', c_', d_', e_', f_'⟩) = b := ⟨_, rfl⟩
        rw [hb] at hcmp
        have HB := Lib.hid hb
        clear hb
        cases b with
        | true =>
          have HEQ : Hid (l[i] = m[i]) := by show _ = _; rw [HE.out, HE'.out]; exact of_decide_eq_true HB.out
          go_wp2_with fail
          go_region
          have hB1 : Below w.heap.size w wr.drew := hB.drew
          go_wp2
          exact ⟨⟨i + 1, by go_num, by omega, hB1, by show _ = _; rw [List.take_succ_eq_append_getElem hil, List.take_succ_eq_append_getElem him, HT.out, HEQ.out]⟩, by simp [intOf]; omega⟩
        | false =>
          have HNE : Hid (r = false) := by
            show _ = _
            rw [← HR.out]
            refine decide_eq_false fun h => ?_
            subst h
            exact of_decide_eq_false HB.out (by rw [← HE.out, ← HE'.out])
          go_wp2_with fail
          go_region
          have hB1 : Below w.heap.size w wr.drew := hB.drew
          go_wp2
          go_ret
          rw [HNE.out]
          exact ⟨rfl, hB1⟩
      · have hin : i = n := by omega
        subst hin
        have HEQ : Hid (r = true) := by
          show _ = _
          rw [← HR.out]
          have h1 : l.take i = l := List.take_of_length_le (by rw [EA.out]; exact Nat.le_refl _)
          have h2 : m.take i = m := List.take_of_length_le (by rw [EB.out]; exact Nat.le_refl _)
          refine decide_eq_true ?_
          rw [← h1, ← h2]; exact HT.out
        go_wp2
        go_ret
        rw [HEQ.out]
        exact ⟨rfl, hB⟩
  · have HNE : Hid (r = false) := by
      show _ = _
      rw [← HR.out]
      refine decide_eq_false fun h => ?_
      have h1 := EA.out
      have h2 := EB.out
      rw [h] at h1
      omega
    have hnb : ((n : Int) == (n2 : Int)) = false := by simpa using (by omega : ¬ (n : Int) = n2)
    clear hn
    go_enter Tryz.func40, Tryz.ntmps40
    go_wp2
    go_ret
    rw [HNE.out]
    exact ⟨rfl, Below.refl _ _⟩
abbrev agT (A : Option Addr) (n c : Nat) (B : Option Addr) (m d : Nat) : Value := .agg #[.slice A n c, .slice B m d]
abbrev bxT (A : Option Addr) (n c : Nat) (B : Option Addr) (m d : Nat) : Obj := .cells #[.slice A n c, .slice B m d] 25
theorem cellsT {W : World} {g : Nat} {A : Option Addr} {n c : Nat} {B : Option Addr} {m d : Nat} (h : W.heap[g]? = some (bxT A n c B m d)) : W.cell? ⟨g, 0, none⟩ = some (.slice A n c) ∧ W.cell? ⟨g, 1, none⟩ = some (.slice B m d) ∧ g < W.heap.size :=
  ⟨by simp [World.cell?, h], by simp [World.cell?, h], (Array.getElem?_eq_some_iff.1 h).1⟩
theorem equalEn_is (n c n2 c2 : Nat) (A B : Option Addr) (l m : List En) (b : Bool) (w : World) (hl : Row enEn 7 w (.slice A n c) l) (hm : Row enEn 7 w (.slice B n2 c2) m) (h : Hid (decide (l = m) = b)) :
    Calls Tryz.prog 39 #[.slice A n c, .slice B n2 c2] w fun e w' => e = .returned (.bool b) ∧ Below w.heap.size w w' := re_ (equalEn_calls n c n2 c2 A B l m w hl hm) (ret_bool h.out)
theorem equalSe_is (n c n2 c2 : Nat) (A B : Option Addr) (l m : List Se) (b : Bool) (w : World) (hl : Row enSe 6 w (.slice A n c) l) (hm : Row enSe 6 w (.slice B n2 c2) m) (h : Hid (decide (l = m) = b)) :
    Calls Tryz.prog 40 #[.slice A n c, .slice B n2 c2] w fun e w' => e = .returned (.bool b) ∧ Below w.heap.size w w' := re_ (equalSe_calls n c n2 c2 A B l m w hl hm) (ret_bool h.out)
theorem between_calls (k : Int) (w : World) :
    Calls Tryz.prog 27 #[.int .i64 k] w fun e w' => e = .returned (.bool (decide (1 ≤ k ∧ k ≤ 6))) ∧ Below w.heap.size w w' := by
  have D := Below.refl w.heap.size w
  by_cases h1 : 1 ≤ k
  · have HF : Hid (decide (1 ≤ k ∧ k ≤ 6) = decide (k ≤ 6)) := by show _ = _; simp [h1]
    have g1 : decide (1 ≤ k) = true := decide_eq_true h1
    go_enter Tryz.func27, Tryz.ntmps27
    go_wp2
    go_ret
    rw [HF.out]
    exact ⟨rfl, D⟩
  · have HF : Hid (decide (1 ≤ k ∧ k ≤ 6) = false) := by show _ = _; simp [h1]
    have g1 : decide (1 ≤ k) = false := decide_eq_false h1
    go_enter Tryz.func27, Tryz.ntmps27
    go_wp2
    go_ret
    exact ⟨by (try rw [HF.out]); rfl, D⟩
theorem between_is (k : Int) (b : Bool) (w : World) (h : Hid (decide (1 ≤ k ∧ k ≤ 6) = b)) :
    Calls Tryz.prog 27 #[.int .i64 k] w fun e w' => e = .returned (.bool b) ∧ Below w.heap.size w w' := re_ (between_calls k w) (ret_bool h.out)
section
variable (n c : Nat) (A : Option Addr) (l : List En) (m d : Nat) (B : Option Addr) (s : List Se) (w : World) (hl : Row enEn 7 w (.slice A n c) l) (hs : Row enSe 6 w (.slice B m d) s)
include hl hs
set_option maxHeartbeats 16000000 in
set_option maxRecDepth 100000 in
theorem MayT_is (hz : SzRo l) (hy : SzSe s) (hn : n ≤ 100000) (b : Bool) (h : Hid (mayT (l, s) = b)) :
    Calls Tryz.prog 13 #[agT A n c B m d] w fun e w' => e = .returned (.bool b) ∧ Below w.heap.size w w' := by
  have D := below_box (w := w) (bxT A n c B m d)
  have hb := heap_alloc_new w (bxT A n c B m d)
  replace hl := hl.below D
  replace hs := hs.below D
  have h0 := h.out
  unfold mayT at h0
  simp only at h0
  clear h
  obtain ⟨r, hr⟩ : ∃ r, mayRo l = r := ⟨_, rfl⟩
  rw [hr] at h0
  have HR := Lib.hid hr
  clear hr
  cases r with
  | false =>
    have HF : Hid (b = false) := by show _ = _; rw [← h0]; rfl
    clear h0
    obtain ⟨z0, z1, zz⟩ := cellsT hb
    go_enter Tryz.func13, Tryz.ntmps13
    go_wp2_with fail
    with_reducible refine (May8_is n c A l _ hl false hz hn HR).mono ?_
    rintro e w1 ⟨rfl, b1⟩
    replace hl := hl.below b1
    replace hs := hs.below b1
    replace hb := hcall hb b1
    replace D := below_call D b1
    clear b1 z0 z1 zz
    go_wp2
    go_ret
    rw [HF.out]
    exact ⟨rfl, D⟩
  | true =>
    have HF : Hid (maySe s = b) := by show _ = _; rw [← h0]; rfl
    clear h0
    obtain ⟨z0, z1, zz⟩ := cellsT hb
    go_enter Tryz.func13, Tryz.ntmps13
    go_wp2_with fail
    with_reducible refine (May8_is n c A l _ hl true hz hn HR).mono ?_
    rintro e w1 ⟨rfl, b1⟩
    replace hl := hl.below b1
    replace hs := hs.below b1
    replace hb := hcall hb b1
    replace D := below_call D b1
    clear b1 z0 z1 zz
    obtain ⟨z0, z1, zz⟩ := cellsT hb
    go_wp2_with fail
    with_reducible refine (May9_is m d B s _ hs b hy HF).mono ?_
    rintro e w2 ⟨rfl, b2⟩
    replace hl := hl.below b2
    replace hs := hs.below b2
    replace hb := hcall hb b2
    replace D := below_call D b2
    clear b2 z0 z1 zz
    go_wp2
    go_ret
    exact ⟨rfl, D⟩
set_option maxHeartbeats 16000000 in
set_option maxRecDepth 100000 in
theorem refMayT_is (hz : SzRo l) (hy : SzSe s) (hn : n ≤ 100000) (b : Bool) (h : Hid (mayT (l, s) = b)) :
    Calls Tryz.prog 14 #[agT A n c B m d] w fun e w' => e = .returned (.bool b) ∧ Below w.heap.size w w' := by
  have D := below_box (w := w) (bxT A n c B m d)
  have hb := heap_alloc_new w (bxT A n c B m d)
  replace hl := hl.below D
  replace hs := hs.below D
  have h0 := h.out
  unfold mayT at h0
  simp only at h0
  clear h
  obtain ⟨r, hr⟩ : ∃ r, mayRo l = r := ⟨_, rfl⟩
  rw [hr] at h0
  have HR := Lib.hid hr
  clear hr
  cases r with
  | false =>
    have HF : Hid (b = false) := by show _ = _; rw [← h0]; rfl
    clear h0
    obtain ⟨z0, z1, zz⟩ := cellsT hb
    go_enter Tryz.func14, Tryz.ntmps14
    go_wp2_with fail
    with_reducible refine (refMay8_is n c A l _ hl false hz hn HR).mono ?_
    rintro e w1 ⟨rfl, b1⟩
    replace hl := hl.below b1
    replace hs := hs.below b1
    replace hb := hcall hb b1
    replace D := below_call D b1
    clear b1 z0 z1 zz
    go_wp2
    go_ret
    rw [HF.out]
    exact ⟨rfl, D⟩
  | true =>
    have HF : Hid (maySe s = b) := by show _ = _; rw [← h0]; rfl
    clear h0
    obtain ⟨z0, z1, zz⟩ := cellsT hb
    go_enter Tryz.func14, Tryz.ntmps14
    go_wp2_with fail
    with_reducible refine (refMay8_is n c A l _ hl true hz hn HR).mono ?_
    rintro e w1 ⟨rfl, b1⟩
    replace hl := hl.below b1
    replace hs := hs.below b1
    replace hb := hcall hb b1
    replace D := below_call D b1
    clear b1 z0 z1 zz
    obtain ⟨z0, z1, zz⟩ := cellsT hb
    go_wp2_with fail
    with_reducible refine (refMay9_is m d B s _ hs b hy HF).mono ?_
    rintro e w2 ⟨rfl, b2⟩
    replace hl := hl.below b2
    replace hs := hs.below b2
    replace hb := hcall hb b2
    replace D := below_call D b2
    clear b2 z0 z1 zz
    go_wp2
    go_ret
    exact ⟨rfl, D⟩
end
set_option maxHeartbeats 16000000 in
set_option maxRecDepth 100000 in
theorem SameT_is (n c : Nat) (A : Option Addr) (l : List En) (m d : Nat) (B : Option Addr) (s : List Se) (n2 c2 : Nat) (A2 : Option Addr) (l2 : List En) (m2 d2 : Nat) (B2 : Option Addr) (s2 : List Se) (w : World) (hl : Row enEn 7 w (.slice A n c) l) (hs : Row enSe 6 w (.slice B m d) s) (hl2 : Row enEn 7 w (.slice A2 n2 c2) l2) (hs2 : Row enSe 6 w (.slice B2 m2 d2) s2) (b : Bool) (h : Hid (decide ((l, s) = (l2, s2)) = b)) :
    Calls Tryz.prog 15 #[agT A n c B m d, agT A2 n2 c2 B2 m2 d2] w fun e w' => e = .returned (.bool b) ∧ Below w.heap.size w w' := by
  have D := below_alloc0 (below_box (w := w) (bxT A n c B m d)) (bxT A2 n2 c2 B2 m2 d2)
  have hb := halloc (heap_alloc_new w (bxT A n c B m d)) (bxT A2 n2 c2 B2 m2 d2)
  have hb2 := heap_alloc_new (w.alloc (bxT A n c B m d)) (bxT A2 n2 c2 B2 m2 d2)
  rw [size_alloc] at hb2
  replace hl := hl.below D
  replace hs := hs.below D
  replace hl2 := hl2.below D
  replace hs2 := hs2.below D
  have h0 : (decide (l = l2) && decide (s = s2)) = b := by
    rw [← h.out, Bool.eq_iff_iff]
    simp only [Bool.and_eq_true, decide_eq_true_eq, Prod.mk.injEq]
  clear h
  obtain ⟨r, hr⟩ : ∃ r, decide (l = l2) = r := ⟨_, rfl⟩
  rw [hr] at h0
  have HR := Lib.hid hr
  clear hr
  cases r with
  | false =>
    have HF : Hid (b = false) := by show _ = _; rw [← h0]; rfl
    clear h0
    obtain ⟨z0, z1, zz⟩ := cellsT hb
    obtain ⟨y0, y1, yz⟩ := cellsT hb2
    go_enter Tryz.func15, Tryz.ntmps15
    go_wp2_with fail
    with_reducible refine (equalEn_is n c n2 c2 A A2 l l2 false _ hl hl2 HR).mono ?_
    rintro e w1 ⟨rfl, b1⟩
    replace hl := hl.below b1
    replace hs := hs.below b1
    replace hl2 := hl2.below b1
    replace hs2 := hs2.below b1
    replace hb := hcall hb b1
    replace hb2 := hcall hb2 b1
    replace D := below_call D b1
    clear b1 z0 z1 zz y0 y1 yz
    go_wp2
    go_ret
    rw [HF.out]
    exact ⟨rfl, D⟩
  | true =>
    have HF : Hid (decide (s = s2) = b) := by show _ = _; rw [← h0]; rfl
    clear h0
    obtain ⟨z0, z1, zz⟩ := cellsT hb
    obtain ⟨y0, y1, yz⟩ := cellsT hb2
    go_enter Tryz.func15, Tryz.ntmps15
    go_wp2_with fail
    with_reducible refine (equalEn_is n c n2 c2 A A2 l l2 true _ hl hl2 HR).mono ?_
    rintro e w1 ⟨rfl, b1⟩
    replace hl := hl.below b1
    replace hs := hs.below b1
    replace hl2 := hl2.below b1
    replace hs2 := hs2.below b1
    replace hb := hcall hb b1
    replace hb2 := hcall hb2 b1
    replace D := below_call D b1
    clear b1 z0 z1 zz y0 y1 yz
    obtain ⟨z0, z1, zz⟩ := cellsT hb
    obtain ⟨y0, y1, yz⟩ := cellsT hb2
    go_wp2_with fail
    with_reducible refine (equalSe_is m d m2 d2 B B2 s s2 b _ hs hs2 HF).mono ?_
    rintro e w2 ⟨rfl, b2⟩
    replace hl := hl.below b2
    replace hs := hs.below b2
    replace hl2 := hl2.below b2
    replace hs2 := hs2.below b2
    replace hb := hcall hb b2
    replace hb2 := hcall hb2 b2
    replace D := below_call D b2
    clear b2 z0 z1 zz y0 y1 yz
    go_wp2
    go_ret
    exact ⟨rfl, D⟩
end Go.Proofs.YtpmafghknafhaaaGreat
