/-
Contracts: two states the same, few, whom an event touches, the document's.
-/
import Derived.Test.YtpmafghknafhaaaGreatStF
import Derived.Deep.QuietTactic
import Derived.BigQuiet
set_option linter.unusedVariables false
set_option linter.unusedSimpArgs false
namespace Go.Proofs.YtpmafghknafhaaaGreat
open Go.RowKit
open Sp
set_option maxHeartbeats 8000000 in
set_option maxRecDepth 100000 in
theorem rsameE_calls (n c n2 c2 : Nat) (A B : Option Addr) (l m : List En) (w : World) (hl : Row enEn 7 w (.slice A n c) l) (hm : Row enEn 7 w (.slice B n2 c2) m) :
    Calls Tryz.prog 34 #[.slice A n c, .slice B n2 c2] w fun e w' => e = .returned (.bool (decide (l = m))) ∧ Below w.heap.size w w' := by
  have EA := Lib.hid hl.len_eq
  have EB := Lib.hid hm.len_eq
  have hnl : n ≤ 9223372036854775807 := by rw [EA.out]; exact hl.len
  obtain ⟨r, hr⟩ : ∃ r, decide (l = m) = r := ⟨_, rfl⟩
  rw [hr]
  have HR := Lib.hid hr
  clear hr
  by_cases hn : n = n2
  · subst hn
    go_enter Tryz.func34, Tryz.ntmps34
    go_wp2
    go_loopw [5] (fun v5 wr => ∃ i : Nat, v5 = .int .i64 i ∧ i ≤ n ∧ Below w.heap.size w wr ∧ Hid (l.take i = m.take i)) (fun v5 _ => (n - intOf v5).toNat)
    case atStart => exact ⟨0, rfl, Nat.zero_le _, Below.refl _ _, rfl⟩
    case round =>
      obtain ⟨i, rfl, hi, hB, HT⟩ := hrel
      by_cases hlt : i < n
      · have hil : i < l.length := by have := EA.out; omega
        have him : i < m.length := by have := EB.out; omega
        obtain ⟨⟨a_, b_, c_, d_, e_, f_, g_⟩, he⟩ : ∃ e, l[i] = e := ⟨_, rfl⟩
        obtain ⟨⟨a_', b_', c_', d_', e_', f_', g_'⟩, he'⟩ : ∃ e, m[i] = e := ⟨_, rfl⟩
        obtain ⟨ad, rfl, c0, c1, c2, c3, c4, c5, c6⟩ := rowEn (hl.below hB) i hil a_ b_ c_ d_ e_ f_ g_ he
        obtain ⟨bd, rfl, d0, d1, d2, d3, d4, d5, d6⟩ := rowEn (hm.below hB) i him a_' b_' c_' d_' e_' f_' g_' he'
        have HE := Lib.hid he
        have HE' := Lib.hid he'
        clear he he'
        have x1 : (0 : Int) ≤ (i : Int) := by omega
        have x2 : (i : Int) < (n : Int) := by omega
        have hcmp := neqEn a_ b_ c_ d_ e_ f_ g_ a_' b_' c_' d_' e_' f_' g_'
        rw [eqvEn] at hcmp
        obtain ⟨b, hb⟩ : ∃ b, decide ((⟨a_, b_, c_, d_, e_, f_, g_⟩ : En) = ⟨a_', b_', c_', d_', e_', f_', g_'⟩) = b := ⟨_, rfl⟩
        rw [hb] at hcmp
        have HB := Lib.hid hb
        clear hb
        cases b with
        | true =>
          have HEQ : Hid (l[i] = m[i]) := by show _ = _; rw [HE.out, HE'.out]; exact of_decide_eq_true HB.out
          go_wp2_with fail
          go_region
          have hB1 : Below w.heap.size w wr.drew := hB.drew
          go_wp2
          exact ⟨⟨i + 1, by go_num, by omega, hB1, by show _ = _; rw [List.take_succ_eq_append_getElem hil, List.take_succ_eq_append_getElem him, HT.out, HEQ.out]⟩, by simp [intOf]; omega⟩
        | false =>
          have HNE : Hid (r = false) := by
            show _ = _
            rw [← HR.out]
            refine decide_eq_false fun h => ?_
            subst h
            exact of_decide_eq_false HB.out (by rw [← HE.out, ← HE'.out])
          go_wp2_with fail
          go_region
          have hB1 : Below w.heap.size w wr.drew := hB.drew
          go_wp2
          go_ret
          rw [HNE.out]
          exact ⟨rfl, hB1⟩
      · have hin : i = n := by omega
        subst hin
        have HEQ : Hid (r = true) := by
          show _ = _
          rw [← HR.out]
          have h1 : l.take i = l := List.take_of_length_le (by rw [EA.out]; exact Nat.le_refl _)
          have h2 : m.take i = m := List.take_of_length_le (by rw [EB.out]; exact Nat.le_refl _)
          refine decide_eq_true ?_
          rw [← h1, ← h2]; exact HT.out
        go_wp2
        go_ret
        rw [HEQ.out]
        exact ⟨rfl, hB⟩
  · have HNE : Hid (r = false) := by
      show _ = _
      rw [← HR.out]
      refine decide_eq_false fun h => ?_
      have h1 := EA.out
      have h2 := EB.out
      rw [h] at h1
      omega
    have hnb : ((n : Int) == (n2 : Int)) = false := by simpa using (by omega : ¬ (n : Int) = n2)
    clear hn
    go_enter Tryz.func34, Tryz.ntmps34
    go_wp2
    go_ret
    rw [HNE.out]
    exact ⟨rfl, Below.refl _ _⟩
theorem rsame8_is (n c n2 c2 : Nat) (A B : Option Addr) (l m : List En) (b : Bool) (w : World) (hl : Row enEn 7 w (.slice A n c) l) (hm : Row enEn 7 w (.slice B n2 c2) m) (h : Hid (decide (l = m) = b)) :
    Calls Tryz.prog 34 #[.slice A n c, .slice B n2 c2] w fun e w' => e = .returned (.bool b) ∧ Below w.heap.size w w' := re_ (rsameE_calls n c n2 c2 A B l m w hl hm) (ret_bool h.out)
theorem rsame9_is (n c n2 c2 : Nat) (A B : Option Addr) (l m : List Se) (b : Bool) (w : World) (hl : Row enSe 6 w (.slice A n c) l) (hm : Row enSe 6 w (.slice B n2 c2) m) (h : Hid (decide (l = m) = b)) :
    Calls Tryz.prog 22 #[.slice A n c, .slice B n2 c2] w fun e w' => e = .returned (.bool b) ∧ Below w.heap.size w w' := re_ (sameSe n c n2 c2 A B l m w hl hm) (ret_bool h.out)
set_option maxHeartbeats 16000000 in
set_option maxRecDepth 100000 in
theorem refSameT_is (n c : Nat) (A : Option Addr) (l : List En) (m d : Nat) (B : Option Addr) (s : List Se) (n2 c2 : Nat) (A2 : Option Addr) (l2 : List En) (m2 d2 : Nat) (B2 : Option Addr) (s2 : List Se) (w : World) (hl : Row enEn 7 w (.slice A n c) l) (hs : Row enSe 6 w (.slice B m d) s) (hl2 : Row enEn 7 w (.slice A2 n2 c2) l2) (hs2 : Row enSe 6 w (.slice B2 m2 d2) s2) (b : Bool) (h : Hid (decide ((l, s) = (l2, s2)) = b)) :
    Calls Tryz.prog 12 #[agT A n c B m d, agT A2 n2 c2 B2 m2 d2] w fun e w' => e = .returned (.bool b) ∧ Below w.heap.size w w' := by
  have D := below_alloc0 (below_box (w := w) (bxT A n c B m d)) (bxT A2 n2 c2 B2 m2 d2)
  have hb := halloc (heap_alloc_new w (bxT A n c B m d)) (bxT A2 n2 c2 B2 m2 d2)
  have hb2 := heap_alloc_new (w.alloc (bxT A n c B m d)) (bxT A2 n2 c2 B2 m2 d2)
  rw [size_alloc] at hb2
  replace hl := hl.below D
  replace hs := hs.below D
  replace hl2 := hl2.below D
  replace hs2 := hs2.below D
  have h0 : (decide (l = l2) && decide (s = s2)) = b := by
    rw [← h.out, Bool.eq_iff_iff]
    simp only [Bool.and_eq_true, decide_eq_true_eq, Prod.mk.injEq]
  clear h
  obtain ⟨r, hr⟩ : ∃ r, decide (l = l2) = r := ⟨_, rfl⟩
  rw [hr] at h0
  have HR := Lib.hid hr
  clear hr
  cases r with
  | false =>
    have HF : Hid (b = false) := by show _ = _; rw [← h0]; rfl
    clear h0
    obtain ⟨z0, z1, zz⟩ := cellsT hb
    obtain ⟨y0, y1, yz⟩ := cellsT hb2
    go_enter Tryz.func12, Tryz.ntmps12
    go_wp2_with fail
    with_reducible refine (rsame8_is n c n2 c2 A A2 l l2 false _ hl hl2 HR).mono ?_
    rintro e w1 ⟨rfl, b1⟩
    replace hl := hl.below b1
    replace hs := hs.below b1
    replace hl2 := hl2.below b1
    replace hs2 := hs2.below b1
    replace hb := hcall hb b1
    replace hb2 := hcall hb2 b1
    replace D := below_call D b1
    clear b1 z0 z1 zz y0 y1 yz
    go_wp2
    go_ret
    rw [HF.out]
    exact ⟨rfl, D⟩
  | true =>
    have HF : Hid (decide (s = s2) = b) := by show _ = _; rw [← h0]; rfl
    clear h0
    obtain ⟨z0, z1, zz⟩ := cellsT hb
    obtain ⟨y0, y1, yz⟩ := cellsT hb2
    go_enter Tryz.func12, Tryz.ntmps12
    go_wp2_with fail
    with_reducible refine (rsame8_is n c n2 c2 A A2 l l2 true _ hl hl2 HR).mono ?_
    rintro e w1 ⟨rfl, b1⟩
    replace hl := hl.below b1
    replace hs := hs.below b1
    replace hl2 := hl2.below b1
    replace hs2 := hs2.below b1
    replace hb := hcall hb b1
    replace hb2 := hcall hb2 b1
    replace D := below_call D b1
    clear b1 z0 z1 zz y0 y1 yz
    obtain ⟨z0, z1, zz⟩ := cellsT hb
    obtain ⟨y0, y1, yz⟩ := cellsT hb2
    go_wp2_with fail
    with_reducible refine (rsame9_is m d m2 d2 B B2 s s2 b _ hs hs2 HF).mono ?_
    rintro e w2 ⟨rfl, b2⟩
    replace hl := hl.below b2
    replace hs := hs.below b2
    replace hl2 := hl2.below b2
    replace hs2 := hs2.below b2
    replace hb := hcall hb b2
    replace hb2 := hcall hb2 b2
    replace D := below_call D b2
    clear b2 z0 z1 zz y0 y1 yz
    go_wp2
    go_ret
    exact ⟨rfl, D⟩
def Sp.fewT (s : Sta) : Bool := fewRo s.1 && fewSe s.2
abbrev SzEs (l : List Se) : Prop := ∀ s ∈ l, s.u.size ≤ 9223372036854775807 ∧ s.v.2.2.2.size ≤ 9223372036854775807
set_option maxHeartbeats 16000000 in
set_option maxRecDepth 100000 in
theorem FewT_is (n c : Nat) (A : Option Addr) (l : List En) (m d : Nat) (B : Option Addr) (s : List Se) (w : World) (hl : Row enEn 7 w (.slice A n c) l) (hs : Row enSe 6 w (.slice B m d) s) (hz : SzE l) (hy : SzEs s) (b : Bool) (h : Hid (fewT (l, s) = b)) :
    Calls Tryz.prog 7 #[agT A n c B m d] w fun e w' => e = .returned (.bool b) ∧ Below w.heap.size w w' := by
  have D := below_box (w := w) (bxT A n c B m d)
  have hb := heap_alloc_new w (bxT A n c B m d)
  replace hl := hl.below D
  replace hs := hs.below D
  have h0 := h.out
  unfold fewT at h0
  simp only at h0
  clear h
  obtain ⟨r, hr⟩ : ∃ r, fewRo l = r := ⟨_, rfl⟩
  rw [hr] at h0
  have HR := Lib.hid hr
  clear hr
  cases r with
  | false =>
    have HF : Hid (b = false) := by show _ = _; rw [← h0]; rfl
    clear h0
    obtain ⟨z0, z1, zz⟩ := cellsT hb
    go_enter Tryz.func7, Tryz.ntmps7
    go_wp2_with fail
    with_reducible refine (few8_is n c A l _ hl false hz HR).mono ?_
    rintro e w1 ⟨rfl, b1⟩
    replace hl := hl.below b1
    replace hs := hs.below b1
    replace hb := hcall hb b1
    replace D := below_call D b1
    clear b1 z0 z1 zz
    go_wp2
    go_ret
    rw [HF.out]
    exact ⟨rfl, D⟩
  | true =>
    have HF : Hid (fewSe s = b) := by show _ = _; rw [← h0]; rfl
    clear h0
    obtain ⟨z0, z1, zz⟩ := cellsT hb
    go_enter Tryz.func7, Tryz.ntmps7
    go_wp2_with fail
    with_reducible refine (few8_is n c A l _ hl true hz HR).mono ?_
    rintro e w1 ⟨rfl, b1⟩
    replace hl := hl.below b1
    replace hs := hs.below b1
    replace hb := hcall hb b1
    replace D := below_call D b1
    clear b1 z0 z1 zz
    obtain ⟨z0, z1, zz⟩ := cellsT hb
    go_wp2_with fail
    with_reducible refine (few9_is m d B s _ hs b hy HF).mono ?_
    rintro e w2 ⟨rfl, b2⟩
    replace hl := hl.below b2
    replace hs := hs.below b2
    replace hb := hcall hb b2
    replace D := below_call D b2
    clear b2 z0 z1 zz
    go_wp2
    go_ret
    exact ⟨rfl, D⟩
set_option maxHeartbeats 16000000 in
set_option maxRecDepth 100000 in
theorem refTouch_is (k : Int) (u o : ByteArray) (i a p q : Int) (t : ByteArray) (r : List ByteArray) (w : World) (h : Hid (touchT ⟨k, u, o, i, (a, p, q, t)⟩ = r)) :
    Calls Tryz.prog 18 #[.agg #[.int .i64 k, .string u, .string o, .int .i64 i, .int .i64 a, .int .i64 p, .int .i64 q, .string t]] w fun x w' => ∃ v, x = .returned v ∧ Row enS 1 w' v r ∧ Below w.heap.size w w' := by
  have D := below_box (w := w) (bxEv k u o i a p q t)
  obtain ⟨e0, e1, e2, e3, e4, e5, e6, e7, ez⟩ := cellsEv k u o i a p q t (heap_alloc_new w (bxEv k u o i a p q t))
  have h0 := h.out
  unfold touchT at h0
  simp only at h0
  clear h
  have HW : Hid ((w.alloc (bxEv k u o i a p q t)).heap.size = w.heap.size + 1) := size_alloc _ _
  by_cases g1 : k < 1
  · rw [if_neg (by omega), if_neg (by omega)] at h0
    have HF := Lib.hid h0
    clear h0
    go_enter Tryz.func18, Tryz.ntmps18
    go_wp2
    go_ret
    rw [← HF.out]
    exact ⟨_, rfl, Row.nil _ _ _, D⟩
  by_cases g8 : 8 < k
  · rw [if_neg (by omega), if_neg (by omega)] at h0
    have HF := Lib.hid h0
    clear h0
    go_enter Tryz.func18, Tryz.ntmps18
    go_wp2
    go_ret
    rw [← HF.out]
    exact ⟨_, rfl, Row.nil _ _ _, D⟩
  by_cases g6 : 6 < k
  · rw [if_neg (by omega), if_pos (by omega)] at h0
    have HF := Lib.hid h0
    clear h0
    have R1 : Row enS 1 ((w.alloc (bxEv k u o i a p q t)).alloc (.cells #[.string u] 9)) (.slice (some ⟨w.heap.size + 1, 0, none⟩) 1 1) [u] := by
      have := (Own.lit (base := w.heap.size) (e := 9) enS_len (w.alloc (bxEv k u o i a p q t)) [u] #[.string u] 1 rfl rfl (by rw [HW.out]; omega) (by decide)).row
      rwa [HW.out] at this
    have D1 := below_alloc0 D (.cells #[.string u] 9)
    go_enter Tryz.func18, Tryz.ntmps18
    go_wp2
    go_ret
    rw [← HF.out]
    exact ⟨_, rfl, R1, D1⟩
  · rw [if_pos (by omega)] at h0
    have HF := Lib.hid h0
    clear h0
    have R1 : Row enS 1 ((w.alloc (bxEv k u o i a p q t)).alloc (.cells #[.string u] 9)) (.slice (some ⟨w.heap.size + 1, 0, none⟩) 1 1) [u] := by
      have := (Own.lit (base := w.heap.size) (e := 9) enS_len (w.alloc (bxEv k u o i a p q t)) [u] #[.string u] 1 rfl rfl (by rw [HW.out]; omega) (by decide)).row
      rwa [HW.out] at this
    replace R1 := R1.below (below_box (.cells #[.string o] 9))
    have R2 : Row enS 1 (((w.alloc (bxEv k u o i a p q t)).alloc (.cells #[.string u] 9)).alloc (.cells #[.string o] 9)) (.slice (some ⟨w.heap.size + 1 + 1, 0, none⟩) 1 1) [o] := by
      have := (Own.lit (base := w.heap.size) (e := 9) enS_len ((w.alloc (bxEv k u o i a p q t)).alloc (.cells #[.string u] 9)) [o] #[.string o] 1 rfl rfl (by rw [size_alloc, HW.out]; omega) (by decide)).row
      rwa [size_alloc, HW.out] at this
    have D1 := below_alloc0 (below_alloc0 D (.cells #[.string u] 9)) (.cells #[.string o] 9)
    go_enter Tryz.func18, Tryz.ntmps18
    go_wp2_with fail
    refine (refMerge_calls 1 1 1 1 _ _ [u] [o] _ R1 R2 (by omega) (by omega)).mono ?_
    rintro e w4 ⟨v4, rfl, hv4, b4⟩
    go_wp2
    go_ret
    rw [← HF.out]
    exact ⟨_, rfl, hv4, below_call D1 b4⟩
theorem fewT_sz {l : List En} {s : List Se} (h : fewT (l, s) = true) : SzRo l ∧ SzSe s ∧ l.length ≤ 80 ∧ s.length ≤ 50 := by
  unfold fewT at h
  rw [Bool.and_eq_true] at h
  obtain ⟨h1, h2⟩ := fewRo_sz h.1
  obtain ⟨h3, h4⟩ := few_sz h.2
  exact ⟨h1, h3, h2, h4⟩
theorem shortE_sz {k : Int} {u o : ByteArray} {i a p q : Int} {t : ByteArray} (h : shortE ⟨k, u, o, i, (a, p, q, t)⟩ = true) : u.size ≤ 140737488351232 ∧ o.size ≤ 140737488351232 ∧ t.size ≤ 140737488351232 := by
  unfold shortE at h
  simp only [Bool.and_eq_true, decide_eq_true_eq] at h
  omega
end Go.Proofs.YtpmafghknafhaaaGreat
