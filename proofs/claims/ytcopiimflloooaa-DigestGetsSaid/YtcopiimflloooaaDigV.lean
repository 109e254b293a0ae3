/-
Layer 5: the walk of DigestGets.
-/
import Derived.Test.YtcopiimflloooaaDigS
set_option linter.unusedVariables false
set_option linter.unusedSimpArgs false
namespace Go.Proofs.Ytcopiimflloooaa
open Go.RowKit
open Sp
theorem mayT_one (x : Sn) : mayT [x] = rowOk x := by
  unfold mayT
  simp [adjT]
theorem szT_set {l : List Sn} (hs : SzT l) (ho : OrdT l) (x : Ch) (h1 : x.c.size ≤ 140737488351232) (h2 : x.v.2.2.2.size ≤ 140737488351232) : SzT (setT l x) := fun s h => by
  rcases setT_mem ho x s h with ⟨rfl, _⟩ | h
  · exact ⟨h1, h2⟩
  · exact hs s h
theorem szN_of {l : List Sn} (h : SzT l) : SzN l := fun s hs => by have := h s hs; omega
set_option maxHeartbeats 16000000 in
set_option maxRecDepth 100000 in
theorem gets5_walk (n c : Nat) (A : Option Addr) (l : List Sn) (s : Ch) (o : ByteArray) (w : World) (hl : Row enSn 5 w (.slice A n c) l) (hz : SzN l) (hq : s.c.size ≤ 9223372036854775807 ∧ s.v.2.2.2.size ≤ 9223372036854775807) (ho : o.size ≤ 9223372036854775807) :
    Calls Try.prog 13 #[.slice A n c, vaCh s, .string o] w fun e w' => e = .returned (.bool true) ∧ Below w.heap.size w w' := by
  obtain ⟨q, on, x, y, z, t⟩ := s
  simp only at hq
  have EA := Lib.hid hl.len_eq
  have D := below_box (w := w) (bxCh q on x y z t)
  have hb := heap_alloc_new w (bxCh q on x y z t)
  cases h : fewT l with
  | false =>
    have H := Lib.hid h
    clear h
    go_enter Try.func13, Try.ntmps13
    go_wp2_with fail
    with_reducible refine (few5_is n c A l _ (hl.below D) false hz H).mono ?_
    rintro e w1 ⟨rfl, b1⟩
    replace hb := hcall hb b1
    replace D := below_call D b1
    clear b1
    go_wp2_with fail
    with_reducible refine (live05 _).mono ?_
    rintro e w2 ⟨rfl, b2⟩
    replace hb := hcall hb b2
    replace D := below_call D b2
    clear b2
    go_wp2
    go_ret
    exact ⟨rfl, D⟩
  | true =>
  obtain ⟨hs, h50⟩ := fewT_sz h
  have hn : n ≤ 1000 := by have := EA.out; omega
  have hln : l.length ≤ 40 := h50
  have H := Lib.hid h
  clear h h50
  cases h : mayT l with
  | false =>
    have HM := Lib.hid h
    clear h
    go_enter Try.func13, Try.ntmps13
    go_wp2_with fail
    with_reducible refine (few5_is n c A l _ (hl.below D) true hz H).mono ?_
    rintro e w1 ⟨rfl, b1⟩
    replace hb := hcall hb b1
    replace D := below_call D b1
    clear b1
    go_wp2_with fail
    with_reducible refine (refMay5_is n c A l _ (hl.below D) false hs HM).mono ?_
    rintro e w2 ⟨rfl, b2⟩
    replace hb := hcall hb b2
    replace D := below_call D b2
    clear b2
    go_wp2_with fail
    with_reducible refine (live05 _).mono ?_
    rintro e w3 ⟨rfl, b3⟩
    replace hb := hcall hb b3
    replace D := below_call D b3
    clear b3
    go_wp2
    go_ret
    exact ⟨rfl, D⟩
  | true =>
  have hm := Lib.hid h
  have HM := Lib.hid h
  clear h
  by_cases hqs : (60 : Int) < (q.size : Int)
  · go_enter Try.func13, Try.ntmps13
    go_wp2_with fail
    with_reducible refine (few5_is n c A l _ (hl.below D) true hz H).mono ?_
    rintro e w1 ⟨rfl, b1⟩
    replace hb := hcall hb b1
    replace D := below_call D b1
    clear b1
    go_wp2_with fail
    with_reducible refine (refMay5_is n c A l _ (hl.below D) true hs HM).mono ?_
    rintro e w2 ⟨rfl, b2⟩
    replace hb := hcall hb b2
    replace D := below_call D b2
    clear b2
    obtain ⟨k0, k1, k2, k3, k4, k5, kz⟩ := cellsCh q on x y z t hb
    go_wp2_with fail
    with_reducible refine (live05 _).mono ?_
    rintro e w3 ⟨rfl, b3⟩
    replace hb := hcall hb b3
    replace D := below_call D b3
    clear b3 k0 k1 k2 k3 k4 k5 kz
    go_wp2
    go_ret
    exact ⟨rfl, D⟩
  have hqt : (q.size : Int) ≤ 60 := by omega
  clear hqs
  by_cases hts : (100 : Int) < (t.size : Int)
  · go_enter Try.func13, Try.ntmps13
    go_wp2_with fail
    with_reducible refine (few5_is n c A l _ (hl.below D) true hz H).mono ?_
    rintro e w1 ⟨rfl, b1⟩
    replace hb := hcall hb b1
    replace D := below_call D b1
    clear b1
    go_wp2_with fail
    with_reducible refine (refMay5_is n c A l _ (hl.below D) true hs HM).mono ?_
    rintro e w2 ⟨rfl, b2⟩
    replace hb := hcall hb b2
    replace D := below_call D b2
    clear b2
    obtain ⟨k0, k1, k2, k3, k4, k5, kz⟩ := cellsCh q on x y z t hb
    go_wp2_with fail
    with_reducible refine (live05 _).mono ?_
    rintro e w3 ⟨rfl, b3⟩
    replace hb := hcall hb b3
    replace D := below_call D b3
    clear b3 k0 k1 k2 k3 k4 k5 kz
    go_wp2
    go_ret
    exact ⟨rfl, D⟩
  have htt : (t.size : Int) ≤ 100 := by omega
  clear hts
  by_cases hos : (60 : Int) < (o.size : Int)
  · go_enter Try.func13, Try.ntmps13
    go_wp2_with fail
    with_reducible refine (few5_is n c A l _ (hl.below D) true hz H).mono ?_
    rintro e w1 ⟨rfl, b1⟩
    replace hb := hcall hb b1
    replace D := below_call D b1
    clear b1
    go_wp2_with fail
    with_reducible refine (refMay5_is n c A l _ (hl.below D) true hs HM).mono ?_
    rintro e w2 ⟨rfl, b2⟩
    replace hb := hcall hb b2
    replace D := below_call D b2
    clear b2
    obtain ⟨k0, k1, k2, k3, k4, k5, kz⟩ := cellsCh q on x y z t hb
    go_wp2_with fail
    with_reducible refine (live05 _).mono ?_
    rintro e w3 ⟨rfl, b3⟩
    replace hb := hcall hb b3
    replace D := below_call D b3
    clear b3 k0 k1 k2 k3 k4 k5 kz
    go_wp2
    go_ret
    exact ⟨rfl, D⟩
  have hot : (o.size : Int) ≤ 60 := by omega
  clear hos
  have hsr := szT_set hs (mayT_ord hm.out) ⟨q, on, x, y, z, t⟩ (by simp only; omega) (by simp only; omega)
  obtain ⟨P1, P2, P3⟩ := gets_plain (mayT_ord hm.out) ⟨q, on, x, y, z, t⟩
  have P4 := gets_may hm.out ⟨q, on, x, y, z, t⟩
  simp only at P1 P2 P3 P4
  rw [← mayT_one] at P4
  obtain ⟨r, hr⟩ : ∃ r, setT l ⟨q, on, x, y, z, t⟩ = r := ⟨_, rfl⟩
  rw [hr] at P1 P2 P3 P4 hsr
  have lr : r.length ≤ 1000 := by rw [← hr]; have := setT_len_any l ⟨q, on, x, y, z, t⟩; omega
  have HR := Lib.hid hr
  obtain ⟨⟨ax, ay, az, at_⟩, ab, hga⟩ : ∃ v b, getT l o = (v, b) := ⟨_, _, rfl⟩
  have HGA := Lib.hid hga
  replace P3 := P3 o
  rw [hga] at P3
  have P3' : o ≠ q → Hid (getT r o = ((ax, ay, az, at_), ab)) := fun h => (P3 h).symm
  have HP3 := Lib.hid P3'
  have HP4 := Lib.hid P4
  have hcz := neqVl 0 0 0 ⟨#[]⟩ 0 0 0 ⟨#[]⟩
  rw [eqvVl, decide_eq_true rfl] at hcz
  have hcx := neqVl x y z t x y z t
  rw [eqvVl, decide_eq_true rfl] at hcx
  have hca := neqVl ax ay az at_ ax ay az at_
  rw [eqvVl, decide_eq_true rfl] at hca
  clear hr hga P3 P3' P4 hln
  cases on with
  | false =>
    have HG := Lib.hid (P2 rfl)
    have HP5 : Hid (mayT r = true) := by show _ = _; rw [HP4.out]; rfl
    clear P1 P2 hcx
    go_enter Try.func13, Try.ntmps13
    go_wp2_with fail
    with_reducible refine (few5_is n c A l _ (hl.below D) true hz H).mono ?_
    rintro e w1 ⟨rfl, b1⟩
    replace hb := hcall hb b1
    replace D := below_call D b1
    clear b1
    go_wp2_with fail
    with_reducible refine (refMay5_is n c A l _ (hl.below D) true hs HM).mono ?_
    rintro e w2 ⟨rfl, b2⟩
    replace hb := hcall hb b2
    replace D := below_call D b2
    clear b2
    obtain ⟨k0, k1, k2, k3, k4, k5, kz⟩ := cellsCh q false x y z t hb
    go_wp2_with fail
    with_reducible refine (Set5_is n c A l _ (hl.below D) q false x y z t r hn HR).mono ?_
    rintro e w3 ⟨v3, rfl, r3, b3⟩
    replace hb := hcall hb b3
    replace D := below_call D b3
    clear b3 k0 k1 k2 k3 k4 k5 kz
    obtain ⟨A3, c3, rfl⟩ := r3.form5 _ rfl
    obtain ⟨k0, k1, k2, k3, k4, k5, kz⟩ := cellsCh q false x y z t hb
    go_wp2_with fail
    with_reducible refine (getT_is _ _ _ r q _ 0 0 0 ⟨#[]⟩ false r3 HG).mono ?_
    rintro e w4 ⟨rfl, b4⟩
    replace hb := hcall hb b4
    replace r3 := r3.below b4
    replace D := below_call D b4
    clear b4 k0 k1 k2 k3 k4 k5 kz
    have hv := heap_alloc_new w4 (bxV 0 0 0 ⟨#[]⟩)
    replace hb := halloc hb (bxV 0 0 0 ⟨#[]⟩)
    replace r3 := r3.below (below_box (bxV 0 0 0 ⟨#[]⟩))
    replace D := below_alloc0 D (bxV 0 0 0 ⟨#[]⟩)
    obtain ⟨k0, k1, k2, k3, k4, k5, kz⟩ := cellsCh q false x y z t hb
    obtain ⟨v0, v1, v2, v3⟩ := cells5V hv
    by_cases hoq : o = q
    · have e1 : (o.toList == q.toList) = true := by rw [hoq]; exact beq_self_eq_true _
      have e2 : o.toList = q.toList := by rw [hoq]
      clear hoq
      have hs1 := heap_alloc_new (w4.alloc (bxV 0 0 0 ⟨#[]⟩)) (bxSn q x y z t)
      replace hb := halloc hb (bxSn q x y z t)
      replace r3 := r3.below (below_box (bxSn q x y z t))
      replace hv := halloc hv (bxSn q x y z t)
      replace D := below_alloc0 D (bxSn q x y z t)
      obtain ⟨j0, j1, j2, j3, j4, j5, jz⟩ := cellsCh q false x y z t hb
      go_wp2_with fail
      with_reducible refine (May5_is _ _ _ r _ r3 true hsr HP5).mono ?_
      rintro e w5 ⟨rfl, b5⟩
      replace hb := hcall hb b5
      replace r3 := r3.below b5
      replace hv := hcall hv b5
      replace D := below_call D b5
      clear b5 k0 k1 k2 k3 k4 k5 kz v0 v1 v2 v3 j0 j1 j2 j3 j4 j5 jz
      go_wp2_with fail
      with_reducible refine (live05 _).mono ?_
      rintro e w6 ⟨rfl, b6⟩
      replace hb := hcall hb b6
      replace r3 := r3.below b6
      replace hv := hcall hv b6
      replace D := below_call D b6
      clear b6
      go_wp2
      go_ret
      exact ⟨rfl, D⟩
    · have HG2 := HP3.out hoq
      have e1 : (o.toList == q.toList) = false := by simpa [toList_inj'] using hoq
      have e2 : ¬ o.toList = q.toList := by simpa [toList_inj'] using hoq
      clear hoq
      go_wp2_with fail
      with_reducible refine (getT_is n c A l o _ ax ay az at_ ab (hl.below D) HGA).mono ?_
      rintro e w5 ⟨rfl, b5⟩
      replace hb := hcall hb b5
      replace r3 := r3.below b5
      replace hv := hcall hv b5
      replace D := below_call D b5
      clear b5 k0 k1 k2 k3 k4 k5 kz v0 v1 v2 v3
      have hx := heap_alloc_new w5 (bxV ax ay az at_)
      replace hb := halloc hb (bxV ax ay az at_)
      replace r3 := r3.below (below_box (bxV ax ay az at_))
      replace hv := halloc hv (bxV ax ay az at_)
      replace D := below_alloc0 D (bxV ax ay az at_)
      go_wp2_with fail
      with_reducible refine (getT_is _ _ _ r o _ ax ay az at_ ab r3 HG2).mono ?_
      rintro e w6 ⟨rfl, b6⟩
      replace hb := hcall hb b6
      replace r3 := r3.below b6
      replace hv := hcall hv b6
      replace hx := hcall hx b6
      replace D := below_call D b6
      clear b6
      have hy := heap_alloc_new w6 (bxV ax ay az at_)
      replace hb := halloc hb (bxV ax ay az at_)
      replace r3 := r3.below (below_box (bxV ax ay az at_))
      replace hv := halloc hv (bxV ax ay az at_)
      replace hx := halloc hx (bxV ax ay az at_)
      replace D := below_alloc0 D (bxV ax ay az at_)
      obtain ⟨k0, k1, k2, k3, k4, k5, kz⟩ := cellsCh q false x y z t hb
      obtain ⟨a0, a1, a2, a3⟩ := cells5V hx
      obtain ⟨b0, b1, b2, b3⟩ := cells5V hy
      have hs1 := heap_alloc_new (w6.alloc (bxV ax ay az at_)) (bxSn q x y z t)
      replace hb := halloc hb (bxSn q x y z t)
      replace r3 := r3.below (below_box (bxSn q x y z t))
      replace hv := halloc hv (bxSn q x y z t)
      replace hx := halloc hx (bxSn q x y z t)
      replace hy := halloc hy (bxSn q x y z t)
      replace D := below_alloc0 D (bxSn q x y z t)
      obtain ⟨j0, j1, j2, j3, j4, j5, jz⟩ := cellsCh q false x y z t hb
      go_wp2_with fail
      with_reducible refine (May5_is _ _ _ r _ r3 true hsr HP5).mono ?_
      rintro e w7 ⟨rfl, b7⟩
      replace hb := hcall hb b7
      replace r3 := r3.below b7
      replace hv := hcall hv b7
      replace hx := hcall hx b7
      replace hy := hcall hy b7
      replace D := below_call D b7
      clear b7 k0 k1 k2 k3 k4 k5 kz a0 a1 a2 a3 b0 b1 b2 b3 j0 j1 j2 j3 j4 j5 jz
      go_wp2_with fail
      with_reducible refine (live05 _).mono ?_
      rintro e w8 ⟨rfl, b8⟩
      replace hb := hcall hb b8
      replace r3 := r3.below b8
      replace hv := hcall hv b8
      replace hx := hcall hx b8
      replace hy := hcall hy b8
      replace D := below_call D b8
      clear b8
      go_wp2
      go_ret
      exact ⟨rfl, D⟩
  | true =>
    have HG := Lib.hid (P1 rfl)
    obtain ⟨m1, hm1⟩ : ∃ m, mayT [⟨q, x, y, z, t⟩] = m := ⟨_, rfl⟩
    have HP5' : m1 = false → Hid (mayT r = false) := fun h => by show _ = _; rw [HP4.out, hm1, h]; rfl
    have HP6' : m1 = true → (r.length : Int) ≤ 32 → Hid (mayT r = true) := fun h h2 => by
      show _ = _
      rw [HP4.out, hm1, h, decide_eq_true (by omega)]
      rfl
    have HP7' : m1 = true → ¬ (r.length : Int) ≤ 32 → Hid (mayT r = false) := fun h h2 => by
      show _ = _
      rw [HP4.out, hm1, h, decide_eq_false (by omega)]
      rfl
    have HP5 := Lib.hid HP5'
    have HP6 := Lib.hid HP6'
    have HP7 := Lib.hid HP7'
    have HM1 := Lib.hid hm1
    have hs1z : SzT [⟨q, x, y, z, t⟩] := fun s h => by rw [List.mem_singleton.1 h]; exact ⟨by simp only; omega, by simp only; omega⟩
    clear P1 P2 hcz HP5' HP6' HP7' hm1
    go_enter Try.func13, Try.ntmps13
    go_wp2_with fail
    with_reducible refine (few5_is n c A l _ (hl.below D) true hz H).mono ?_
    rintro e w1 ⟨rfl, b1⟩
    replace hb := hcall hb b1
    replace D := below_call D b1
    clear b1
    go_wp2_with fail
    with_reducible refine (refMay5_is n c A l _ (hl.below D) true hs HM).mono ?_
    rintro e w2 ⟨rfl, b2⟩
    replace hb := hcall hb b2
    replace D := below_call D b2
    clear b2
    obtain ⟨k0, k1, k2, k3, k4, k5, kz⟩ := cellsCh q true x y z t hb
    go_wp2_with fail
    with_reducible refine (Set5_is n c A l _ (hl.below D) q true x y z t r hn HR).mono ?_
    rintro e w3 ⟨v3, rfl, r3, b3⟩
    replace hb := hcall hb b3
    replace D := below_call D b3
    clear b3 k0 k1 k2 k3 k4 k5 kz
    obtain ⟨A3, c3, rfl⟩ := r3.form5 _ rfl
    obtain ⟨k0, k1, k2, k3, k4, k5, kz⟩ := cellsCh q true x y z t hb
    go_wp2_with fail
    with_reducible refine (getT_is _ _ _ r q _ x y z t true r3 HG).mono ?_
    rintro e w4 ⟨rfl, b4⟩
    replace hb := hcall hb b4
    replace r3 := r3.below b4
    replace D := below_call D b4
    clear b4 k0 k1 k2 k3 k4 k5 kz
    have hv := heap_alloc_new w4 (bxV x y z t)
    replace hb := halloc hb (bxV x y z t)
    replace r3 := r3.below (below_box (bxV x y z t))
    replace D := below_alloc0 D (bxV x y z t)
    obtain ⟨k0, k1, k2, k3, k4, k5, kz⟩ := cellsCh q true x y z t hb
    obtain ⟨v0, v1, v2, v3⟩ := cells5V hv
    by_cases hoq : o = q
    · have e1 : (o.toList == q.toList) = true := by rw [hoq]; exact beq_self_eq_true _
      have e2 : o.toList = q.toList := by rw [hoq]
      clear hoq
      have hs1 := heap_alloc_new (w4.alloc (bxV x y z t)) (bxSn q x y z t)
      replace hb := halloc hb (bxSn q x y z t)
      replace r3 := r3.below (below_box (bxSn q x y z t))
      replace hv := halloc hv (bxSn q x y z t)
      replace D := below_alloc0 D (bxSn q x y z t)
      obtain ⟨j0, j1, j2, j3, j4, j5, jz⟩ := cellsCh q true x y z t hb
      obtain ⟨s0, s1, s2, s3, s4, sz⟩ := cellsSn q x y z t hs1
      have r1 := (Own.lit (e := 66) (base := 0) enSn_len ((w4.alloc (bxV x y z t)).alloc (bxSn q x y z t)) [⟨q, x, y, z, t⟩] #[.string q, .int .i64 x, .int .i64 y, .int .i64 z, .string t] 1 rfl rfl (Nat.zero_le _) (by omega)).row
      simp only [size_alloc] at r1
      replace hb := halloc hb (.cells #[.string q, .int .i64 x, .int .i64 y, .int .i64 z, .string t] 66)
      replace r3 := r3.below (below_box (.cells #[.string q, .int .i64 x, .int .i64 y, .int .i64 z, .string t] 66))
      replace hv := halloc hv (.cells #[.string q, .int .i64 x, .int .i64 y, .int .i64 z, .string t] 66)
      replace D := below_alloc0 D (.cells #[.string q, .int .i64 x, .int .i64 y, .int .i64 z, .string t] 66)
      go_wp2_with fail
      with_reducible refine (refMay5_is 1 1 _ [⟨q, x, y, z, t⟩] _ r1 m1 hs1z HM1).mono ?_
      rintro e w5 ⟨rfl, b5⟩
      replace hb := hcall hb b5
      replace r3 := r3.below b5
      replace hv := hcall hv b5
      replace D := below_call D b5
      clear b5 k0 k1 k2 k3 k4 k5 kz v0 v1 v2 v3 j0 j1 j2 j3 j4 j5 jz s0 s1 s2 s3 s4 sz
      clear r1
      cases m1 with
      | false =>
        go_wp2_with fail
        with_reducible refine (May5_is _ _ _ r _ r3 false hsr (HP5.out (by trivial))).mono ?_
        rintro e w6 ⟨rfl, b6⟩
        replace hb := hcall hb b6
        replace r3 := r3.below b6
        replace hv := hcall hv b6
        replace D := below_call D b6
        clear b6
        go_wp2_with fail
        with_reducible refine (live05 _).mono ?_
        rintro e w7 ⟨rfl, b7⟩
        replace hb := hcall hb b7
        replace r3 := r3.below b7
        replace hv := hcall hv b7
        replace D := below_call D b7
        clear b7
        go_wp2
        go_ret
        exact ⟨rfl, D⟩
      | true =>
        by_cases h32 : (r.length : Int) ≤ 32
        · have HP8 := HP6.out (by trivial) (by omega)
          have h34 : decide ((r.length : Int) ≤ 32) = true := by simpa using h32
          go_wp2_with fail
          with_reducible refine (May5_is _ _ _ r _ r3 true hsr HP8).mono ?_
          rintro e w6 ⟨rfl, b6⟩
          replace hb := hcall hb b6
          replace r3 := r3.below b6
          replace hv := hcall hv b6
          replace D := below_call D b6
          clear b6
          go_wp2_with fail
          with_reducible refine (live05 _).mono ?_
          rintro e w7 ⟨rfl, b7⟩
          replace hb := hcall hb b7
          replace r3 := r3.below b7
          replace hv := hcall hv b7
          replace D := below_call D b7
          clear b7
          go_wp2
          go_ret
          exact ⟨rfl, D⟩
        · have HP8 := HP7.out (by trivial) (by omega)
          have h34 : decide ((r.length : Int) ≤ 32) = false := by simpa using h32
          have h33 : (32 : Int) < (r.length : Int) := by omega
          go_wp2_with fail
          with_reducible refine (May5_is _ _ _ r _ r3 false hsr HP8).mono ?_
          rintro e w6 ⟨rfl, b6⟩
          replace hb := hcall hb b6
          replace r3 := r3.below b6
          replace hv := hcall hv b6
          replace D := below_call D b6
          clear b6
          go_wp2_with fail
          with_reducible refine (live05 _).mono ?_
          rintro e w7 ⟨rfl, b7⟩
          replace hb := hcall hb b7
          replace r3 := r3.below b7
          replace hv := hcall hv b7
          replace D := below_call D b7
          clear b7
          go_wp2
          go_ret
          exact ⟨rfl, D⟩
    · have HG2 := HP3.out hoq
      have e1 : (o.toList == q.toList) = false := by simpa [toList_inj'] using hoq
      have e2 : ¬ o.toList = q.toList := by simpa [toList_inj'] using hoq
      clear hoq
      go_wp2_with fail
      with_reducible refine (getT_is n c A l o _ ax ay az at_ ab (hl.below D) HGA).mono ?_
      rintro e w5 ⟨rfl, b5⟩
      replace hb := hcall hb b5
      replace r3 := r3.below b5
      replace hv := hcall hv b5
      replace D := below_call D b5
      clear b5 k0 k1 k2 k3 k4 k5 kz v0 v1 v2 v3
      have hx := heap_alloc_new w5 (bxV ax ay az at_)
      replace hb := halloc hb (bxV ax ay az at_)
      replace r3 := r3.below (below_box (bxV ax ay az at_))
      replace hv := halloc hv (bxV ax ay az at_)
      replace D := below_alloc0 D (bxV ax ay az at_)
      go_wp2_with fail
      with_reducible refine (getT_is _ _ _ r o _ ax ay az at_ ab r3 HG2).mono ?_
      rintro e w6 ⟨rfl, b6⟩
      replace hb := hcall hb b6
      replace r3 := r3.below b6
      replace hv := hcall hv b6
      replace hx := hcall hx b6
      replace D := below_call D b6
      clear b6
      have hy := heap_alloc_new w6 (bxV ax ay az at_)
      replace hb := halloc hb (bxV ax ay az at_)
      replace r3 := r3.below (below_box (bxV ax ay az at_))
      replace hv := halloc hv (bxV ax ay az at_)
      replace hx := halloc hx (bxV ax ay az at_)
      replace D := below_alloc0 D (bxV ax ay az at_)
      obtain ⟨k0, k1, k2, k3, k4, k5, kz⟩ := cellsCh q true x y z t hb
      obtain ⟨a0, a1, a2, a3⟩ := cells5V hx
      obtain ⟨b0, b1, b2, b3⟩ := cells5V hy
      have hs1 := heap_alloc_new (w6.alloc (bxV ax ay az at_)) (bxSn q x y z t)
      replace hb := halloc hb (bxSn q x y z t)
      replace r3 := r3.below (below_box (bxSn q x y z t))
      replace hv := halloc hv (bxSn q x y z t)
      replace hx := halloc hx (bxSn q x y z t)
      replace hy := halloc hy (bxSn q x y z t)
      replace D := below_alloc0 D (bxSn q x y z t)
      obtain ⟨j0, j1, j2, j3, j4, j5, jz⟩ := cellsCh q true x y z t hb
      obtain ⟨s0, s1, s2, s3, s4, sz⟩ := cellsSn q x y z t hs1
      have r1 := (Own.lit (e := 66) (base := 0) enSn_len ((w6.alloc (bxV ax ay az at_)).alloc (bxSn q x y z t)) [⟨q, x, y, z, t⟩] #[.string q, .int .i64 x, .int .i64 y, .int .i64 z, .string t] 1 rfl rfl (Nat.zero_le _) (by omega)).row
      simp only [size_alloc] at r1
      replace hb := halloc hb (.cells #[.string q, .int .i64 x, .int .i64 y, .int .i64 z, .string t] 66)
      replace r3 := r3.below (below_box (.cells #[.string q, .int .i64 x, .int .i64 y, .int .i64 z, .string t] 66))
      replace hv := halloc hv (.cells #[.string q, .int .i64 x, .int .i64 y, .int .i64 z, .string t] 66)
      replace hx := halloc hx (.cells #[.string q, .int .i64 x, .int .i64 y, .int .i64 z, .string t] 66)
      replace hy := halloc hy (.cells #[.string q, .int .i64 x, .int .i64 y, .int .i64 z, .string t] 66)
      replace D := below_alloc0 D (.cells #[.string q, .int .i64 x, .int .i64 y, .int .i64 z, .string t] 66)
      go_wp2_with fail
      with_reducible refine (refMay5_is 1 1 _ [⟨q, x, y, z, t⟩] _ r1 m1 hs1z HM1).mono ?_
      rintro e w7 ⟨rfl, b7⟩
      replace hb := hcall hb b7
      replace r3 := r3.below b7
      replace hv := hcall hv b7
      replace hx := hcall hx b7
      replace hy := hcall hy b7
      replace D := below_call D b7
      clear b7 k0 k1 k2 k3 k4 k5 kz a0 a1 a2 a3 b0 b1 b2 b3 j0 j1 j2 j3 j4 j5 jz s0 s1 s2 s3 s4 sz
      clear r1
      cases m1 with
      | false =>
        go_wp2_with fail
        with_reducible refine (May5_is _ _ _ r _ r3 false hsr (HP5.out (by trivial))).mono ?_
        rintro e w8 ⟨rfl, b8⟩
        replace hb := hcall hb b8
        replace r3 := r3.below b8
        replace hv := hcall hv b8
        replace hx := hcall hx b8
        replace hy := hcall hy b8
        replace D := below_call D b8
        clear b8
        go_wp2_with fail
        with_reducible refine (live05 _).mono ?_
        rintro e w9 ⟨rfl, b9⟩
        replace hb := hcall hb b9
        replace r3 := r3.below b9
        replace hv := hcall hv b9
        replace hx := hcall hx b9
        replace hy := hcall hy b9
        replace D := below_call D b9
        clear b9
        go_wp2
        go_ret
        exact ⟨rfl, D⟩
      | true =>
        by_cases h32 : (r.length : Int) ≤ 32
        · have HP8 := HP6.out (by trivial) (by omega)
          have h34 : decide ((r.length : Int) ≤ 32) = true := by simpa using h32
          go_wp2_with fail
          with_reducible refine (May5_is _ _ _ r _ r3 true hsr HP8).mono ?_
          rintro e w8 ⟨rfl, b8⟩
          replace hb := hcall hb b8
          replace r3 := r3.below b8
          replace hv := hcall hv b8
          replace hx := hcall hx b8
          replace hy := hcall hy b8
          replace D := below_call D b8
          clear b8
          go_wp2_with fail
          with_reducible refine (live05 _).mono ?_
          rintro e w9 ⟨rfl, b9⟩
          replace hb := hcall hb b9
          replace r3 := r3.below b9
          replace hv := hcall hv b9
          replace hx := hcall hx b9
          replace hy := hcall hy b9
          replace D := below_call D b9
          clear b9
          go_wp2
          go_ret
          exact ⟨rfl, D⟩
        · have HP8 := HP7.out (by trivial) (by omega)
          have h34 : decide ((r.length : Int) ≤ 32) = false := by simpa using h32
          have h33 : (32 : Int) < (r.length : Int) := by omega
          go_wp2_with fail
          with_reducible refine (May5_is _ _ _ r _ r3 false hsr HP8).mono ?_
          rintro e w8 ⟨rfl, b8⟩
          replace hb := hcall hb b8
          replace r3 := r3.below b8
          replace hv := hcall hv b8
          replace hx := hcall hx b8
          replace hy := hcall hy b8
          replace D := below_call D b8
          clear b8
          go_wp2_with fail
          with_reducible refine (live05 _).mono ?_
          rintro e w9 ⟨rfl, b9⟩
          replace hb := hcall hb b9
          replace r3 := r3.below b9
          replace hv := hcall hv b9
          replace hx := hcall hx b9
          replace hy := hcall hy b9
          replace D := below_call D b9
          clear b9
          go_wp2
          go_ret
          exact ⟨rfl, D⟩
end Go.Proofs.Ytcopiimflloooaa
