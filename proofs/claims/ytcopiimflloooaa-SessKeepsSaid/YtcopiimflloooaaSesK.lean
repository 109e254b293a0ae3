/-
Contract: a session put, by the document.
-/
import Derived.Test.YtcopiimflloooaaSesJ
set_option linter.unusedVariables false
set_option linter.unusedSimpArgs false
namespace Go.Proofs.Ytcopiimflloooaa
open Go.RowKit
open Sp
set_option maxHeartbeats 32000000 in
set_option maxRecDepth 100000 in
theorem refPut9_calls (n c : Nat) (A : Option Addr) (l : List Se) (u : ByteArray) (i_ a p n_ : Int) (t : ByteArray) (w : World) (hl : Row enSe 6 w (.slice A n c) l) (hz : SzSe l) (hu : u.size ≤ 140737488351232) (ht : t.size ≤ 140737488351232) :
    Calls Try.prog 26 #[.slice A n c, ag6 u i_ a p n_ t] w fun e w' => ∃ v, e = .returned (.tuple #[v, .int .i64 (putSe l ⟨u, i_, a, p, n_, t⟩).2]) ∧ Row enSe 6 w' v (putSe l ⟨u, i_, a, p, n_, t⟩).1 ∧ Below w.heap.size w w' := by
  have EA := Lib.hid hl.len_eq
  obtain ⟨r, er, hr⟩ : ∃ r er, putSe l ⟨u, i_, a, p, n_, t⟩ = (r, er) := ⟨_, _, rfl⟩
  rw [hr]
  have HR := Lib.hid hr
  clear hr
  have hBx := below_box (w := w) (bxSe u i_ a p n_ t)
  have hbox := heap_alloc_new w (bxSe u i_ a p n_ t)
  obtain ⟨m, hm⟩ : ∃ m, maySe l = m := ⟨_, rfl⟩
  have HM := Lib.hid hm
  have HC := re_ (refMay9_calls n c A l _ (hl.below hBx) hz) (ret_bool HM.out)
  cases m with
  | false =>
    have HF : Hid (r = l ∧ er = 1) := by
      have := HR.out
      rw [putSe_no (.inl hm)] at this
      injection this with h1 h2
      exact ⟨h1.symm, h2.symm⟩
    clear hm
    go_enter Try.func26, Try.ntmps26
    go_wp2_with fail
    refine HC.mono ?_
    rintro e w1 ⟨rfl, b1⟩
    have B1 := below_call hBx b1
    go_wp2
    go_ret2
    rw [HF.out.1, HF.out.2]
    exact ⟨_, rfl, hl.below B1, B1⟩
  | true =>
  obtain ⟨o, ho⟩ : ∃ o, oneS ⟨u, i_, a, p, n_, t⟩ = o := ⟨_, rfl⟩
  have HO := Lib.hid ho
  cases o with
  | false =>
    have HF : Hid (r = l ∧ er = 1) := by
      have := HR.out
      rw [putSe_no (.inr ho)] at this
      injection this with h1 h2
      exact ⟨h1.symm, h2.symm⟩
    clear hm ho
    go_enter Try.func26, Try.ntmps26
    go_wp2_with fail
    refine HC.mono ?_
    rintro e w1 ⟨rfl, b1⟩
    have hb1 := hcall hbox b1
    obtain ⟨s0, s1, s2, s3, s4, s5, sz⟩ := cellsSe u i_ a p n_ t hb1
    go_wp2_with fail
    refine (re_ (refOne_calls u i_ a p n_ t _ hu ht) (ret_bool HO.out)).mono ?_
    rintro e w2 ⟨rfl, b2⟩
    have D2 := below_call b1 b2
    clear b1 b2 s0 s1 s2 s3 s4 s5 sz hb1
    have B2 := below_call hBx D2
    go_wp2
    go_ret2
    rw [HF.out.1, HF.out.2]
    exact ⟨_, rfl, hl.below B2, B2⟩
  | true =>
  have h32 := ((maySe_iff l).1 hm).1
  have hn32 : n ≤ 32 := by have := EA.out; omega
  obtain ⟨ix, hix⟩ : ∃ ix, idxSe l (u, i_) = ix := ⟨_, rfl⟩
  have hks : keySe ⟨u, i_, a, p, n_, t⟩ = (u, i_) := rfl
  have hen : ∀ W : World, Own enSe 6 34 (W.alloc (.cells #[] 34)) W.heap.size (.slice (some ⟨W.heap.size, 0, none⟩) 0 0) [] := fun W => Own.lit enSe_len W [] #[] 0 rfl rfl (Nat.le_refl _) (by omega)
  have HEN := Lib.hid hen
  have HZ1 : Hid (l.length ≤ 100000) := by show _ ≤ _; omega
  clear hen
  cases ix with
  | some i =>
    obtain ⟨hil, -⟩ := idxSe_some hix
    have HF : Hid (r = l.set i ⟨u, i_, a, p, n_, t⟩ ∧ er = 0) := by
      have := HR.out
      rw [putSe_at hm ho (by rw [hks]; exact hix)] at this
      injection this with h1 h2
      exact ⟨h1.symm, h2.symm⟩
    have HIX : Hid (idxI (idxSe l (u, i_)) = (i : Int)) := by show _ = _; rw [hix]; rfl
    have x1 : (0 : Int) ≤ (i : Int) := by omega
    have x2 : (i : Int) < (n : Int) := by have := EA.out; omega
    have HIL := Lib.hid hil
    clear hm ho hix hks h32 hil
    go_enter Try.func26, Try.ntmps26
    go_wp2_with fail
    refine HC.mono ?_
    rintro e w1 ⟨rfl, b1⟩
    have hb1 := hcall hbox b1
    obtain ⟨s0, s1, s2, s3, s4, s5, sz⟩ := cellsSe u i_ a p n_ t hb1
    go_wp2_with fail
    refine (re_ (refOne_calls u i_ a p n_ t _ hu ht) (ret_bool HO.out)).mono ?_
    rintro e w2 ⟨rfl, b2⟩
    have D2 := below_call b1 b2
    clear b1 b2 s0 s1 s2 s3 s4 s5 sz hb1
    obtain ⟨s0, s1, s2, s3, s4, s5, sz⟩ := cellsSe u i_ a p n_ t (hcall hbox D2)
    go_wp2_with fail
    refine (re_ (place_calls n c A l u i_ _ (hl.below (below_call hBx D2))) (by rw [HIX.out])).mono ?_
    rintro e w3 ⟨rfl, b3⟩
    have hD := below_call D2 b3
    clear b3 D2 s0 s1 s2 s3 s4 s5 sz
    have O2 := (HEN.out w3).lower (base' := (w.alloc (bxSe u i_ a p n_ t)).heap.size) hD.size
    have B3 := hD.alloc hD.size (.cells #[] 34)
    go_wp2_with (first | (at_builtin; refine Own.appendRow (w0 := (w.alloc (bxSe u i_ a p n_ t))) (w.alloc (bxSe u i_ a p n_ t)).heap.size rfl (.tmp 27) (.tmp 28) 22 34 zvSe 6 64 rfl Try.underlying22 infoSe rfl (by decide) (.slice (some ⟨w3.heap.size, 0, none⟩) 0 0) (.slice A n c) [] l rfl rfl enSe_one O2 (hl.below (below_call hBx B3)) B3 B3.size (by have := HZ1.out; simp only [List.length_nil]; omega) (by have := HZ1.out; simp only [List.length_nil]; omega) ?_; intro v4 w4 (hO4 : Own enSe 6 34 w4 _ v4 l) hB4 _ _; (obtain ⟨A4, c4, hv4, _⟩ := hO4.slice); (rw [← EA.out] at hv4); subst hv4; (obtain ⟨b, rfl, hbb, _⟩ := hO4.at0 (by have := HIL.out; omega)); (obtain ⟨s0, s1, s2, s3, s4, s5, sz⟩ := cellsSe u i_ a p n_ t (hcall hbox hB4))) | (with_reducible refine Own.store rfl 34 (.tmp 33) (.tmp 32) rfl szSe b n c4 i l ⟨u, i_, a, p, n_, t⟩ hO4 enSe_len (enSe_one _) HIL.out rfl (enSe ⟨u, i_, a, p, n_, t⟩) rfl rfl hB4 ?_; intro w6 hO6 hB6 hz6 ho6))
    go_ret2
    rw [HF.out.1, HF.out.2]
    exact ⟨_, rfl, hO6.row, below_call hBx hB6⟩
  | none =>
    have HIX : Hid (idxI (idxSe l (u, i_)) = -1) := by show _ = _; rw [hix]; rfl
    by_cases hfull : n = 32
    · have HF : Hid (r = l ∧ er = 5) := by
        have := HR.out
        rw [putSe_full hm ho (by rw [hks]; exact hix) (by rw [← EA.out]; exact hfull)] at this
        injection this with h1 h2
        exact ⟨h1.symm, h2.symm⟩
      have hnb : (32 : Int) ≤ (n : Int) := by omega
      clear hm ho hix hks h32 hfull
      go_enter Try.func26, Try.ntmps26
      go_wp2_with fail
      refine HC.mono ?_
      rintro e w1 ⟨rfl, b1⟩
      have hb1 := hcall hbox b1
      obtain ⟨s0, s1, s2, s3, s4, s5, sz⟩ := cellsSe u i_ a p n_ t hb1
      go_wp2_with fail
      refine (re_ (refOne_calls u i_ a p n_ t _ hu ht) (ret_bool HO.out)).mono ?_
      rintro e w2 ⟨rfl, b2⟩
      have D2 := below_call b1 b2
      clear b1 b2 s0 s1 s2 s3 s4 s5 sz hb1
      obtain ⟨s0, s1, s2, s3, s4, s5, sz⟩ := cellsSe u i_ a p n_ t (hcall hbox D2)
      go_wp2_with fail
      refine (re_ (place_calls n c A l u i_ _ (hl.below (below_call hBx D2))) (by rw [HIX.out])).mono ?_
      rintro e w3 ⟨rfl, b3⟩
      have hD := below_call D2 b3
      clear b3 D2 s0 s1 s2 s3 s4 s5 sz
      have B3 := below_call hBx hD
      go_wp2
      go_ret2
      rw [HF.out.1, HF.out.2]
      exact ⟨_, rfl, hl.below B3, B3⟩
    · have HF : Hid (r = l.take (atSe l ⟨u, i_, a, p, n_, t⟩) ++ ⟨u, i_, a, p, n_, t⟩ :: l.drop (atSe l ⟨u, i_, a, p, n_, t⟩) ∧ er = 0) := by
        have := HR.out
        rw [putSe_new hm ho (by rw [hks]; exact hix) (by rw [← EA.out]; exact hfull)] at this
        injection this with h1 h2
        exact ⟨h1.symm, h2.symm⟩
      have hnb : (n : Int) < 32 := by omega
      have hcap : n ≤ c ∧ c ≤ 9223372036854775807 := by
        obtain ⟨A', c', he, h1, h2, _⟩ := hl
        injection he with e1 e2 e3
        subst e3
        simp only [maxLen] at h2
        have := EA.out
        omega
      obtain ⟨hc1, hc2⟩ := hcap
      clear hm ho hix hks h32 hfull
      go_enter Try.func26, Try.ntmps26
      go_wp2_with fail
      refine HC.mono ?_
      rintro e w1 ⟨rfl, b1⟩
      have hb1 := hcall hbox b1
      obtain ⟨s0, s1, s2, s3, s4, s5, sz⟩ := cellsSe u i_ a p n_ t hb1
      go_wp2_with fail
      refine (re_ (refOne_calls u i_ a p n_ t _ hu ht) (ret_bool HO.out)).mono ?_
      rintro e w2 ⟨rfl, b2⟩
      have D2 := below_call b1 b2
      clear b1 b2 s0 s1 s2 s3 s4 s5 sz hb1
      obtain ⟨s0, s1, s2, s3, s4, s5, sz⟩ := cellsSe u i_ a p n_ t (hcall hbox D2)
      go_wp2_with fail
      refine (re_ (place_calls n c A l u i_ _ (hl.below (below_call hBx D2))) (by rw [HIX.out])).mono ?_
      rintro e w3 ⟨rfl, b3⟩
      have hD := below_call D2 b3
      clear b3 D2 s0 s1 s2 s3 s4 s5 sz
      go_wp2_with fail
      go_loopw [8] (fun v9 wr => ∃ i : Nat, v9 = .int .i64 i ∧ i ≤ n ∧ Below (w.alloc (bxSe u i_ a p n_ t)).heap.size (w.alloc (bxSe u i_ a p n_ t)) wr ∧ Hid (∀ j (h : j < l.length), j < i → ltSe (keySe l[j]) ((u, i_) : SeK) = true)) (fun v9 _ => (n - intOf v9).toNat)
      case atStart => exact ⟨0, rfl, Nat.zero_le _, hD, fun j _ h => absurd h (by omega)⟩
      case round =>
        obtain ⟨i, rfl, hi, hB, HT⟩ := hrel
        clear hD
        by_cases hlt : i < n
        · have hil : i < l.length := by have := EA.out; omega
          obtain ⟨⟨a_, b_, c_, d_, e_, f_⟩, he⟩ : ∃ e, l[i] = e := ⟨_, rfl⟩
          obtain ⟨ad, rfl, c0, c1, c2, c3, c4, c5⟩ := rowSe (hl.below (below_call hBx hB)) i hil a_ b_ c_ d_ e_ f_ he
          obtain ⟨s0, s1, s2, s3, s4, s5, sz⟩ := cellsSe u i_ a p n_ t (hcall hbox hB)
          obtain ⟨b, hb⟩ : ∃ b, ltSe (a_, b_) (u, i_) = b := ⟨_, rfl⟩
          have HB := Lib.hid hb
          have HLT : Hid (ltSe (keySe l[i]) ((u, i_) : SeK) = b) := by show _ = _; rw [he, ← hb]; rfl
          have x1 : (0 : Int) ≤ (i : Int) := by omega
          have x2 : (i : Int) < (n : Int) := by omega
          have hD : Below (w.alloc (bxSe u i_ a p n_ t)).heap.size (w.alloc (bxSe u i_ a p n_ t)) wr.drew := hB.drew
          clear hb he
          go_wp2_with fail
          go_region_held3 (fun w' => w'.cell? (ad.add (i * 6)) = some (.string a_) ∧ w'.cell? ⟨(ad.add (i * 6)).block, (ad.add (i * 6)).off + 1, none⟩ = some (.int .i64 b_) ∧ w'.cell? ⟨(ad.add (i * 6)).block, (ad.add (i * 6)).off + 2, none⟩ = some (.int .i64 c_) ∧ w'.cell? ⟨(ad.add (i * 6)).block, (ad.add (i * 6)).off + 3, none⟩ = some (.int .i64 d_) ∧ w'.cell? ⟨(ad.add (i * 6)).block, (ad.add (i * 6)).off + 4, none⟩ = some (.int .i64 e_) ∧ w'.cell? ⟨(ad.add (i * 6)).block, (ad.add (i * 6)).off + 5, none⟩ = some (.string f_) ∧ w'.cell? ⟨w.heap.size, 0, none⟩ = some (.string u) ∧ w'.cell? ⟨w.heap.size, 1, none⟩ = some (.int .i64 i_) ∧ w'.cell? ⟨w.heap.size, 2, none⟩ = some (.int .i64 a) ∧ w'.cell? ⟨w.heap.size, 3, none⟩ = some (.int .i64 p) ∧ w'.cell? ⟨w.heap.size, 4, none⟩ = some (.int .i64 n_) ∧ w'.cell? ⟨w.heap.size, 5, none⟩ = some (.string t)) (exact ⟨c0, c1, c2, c3, c4, c5, s0, s1, s2, s3, s4, s5⟩) (((go_at_call 53; refine (re_ (refAheadS_calls a_ b_ c_ d_ e_ f_ u i_ a p n_ t _) (ret_bool HB.out)).mono ?_); rintro e wx ⟨rfl, hbx⟩; replace hD := hD.trans (hbx.mono hD.size); replace c0 := cell_below hbx c0; replace c1 := cell_below hbx c1; replace c2 := cell_below hbx c2; replace c3 := cell_below hbx c3; replace c4 := cell_below hbx c4; replace c5 := cell_below hbx c5; replace s0 := cell_below hbx s0; replace s1 := cell_below hbx s1; replace s2 := cell_below hbx s2; replace s3 := cell_below hbx s3; replace s4 := cell_below hbx s4; replace s5 := cell_below hbx s5; clear hbx))
          all_goals
            clear c0 c1 c2 c3 c4 c5 s0 s1 s2 s3 s4 s5 sz
            cases b with
            | true =>
              have HT2 : Hid (∀ j (h : j < l.length), j < i + 1 → ltSe (keySe l[j]) ((u, i_) : SeK) = true) := fun j h hj => by
                rcases Nat.lt_or_ge j i with h' | h'
                · exact HT.out j h h'
                · obtain rfl : j = i := by omega
                  exact HLT.out
              go_wp2
              exact ⟨⟨i + 1, by go_num, by omega, hD, HT2⟩, by simp [intOf]; omega⟩
            | false =>
              have HAT : Hid (atSe l ⟨u, i_, a, p, n_, t⟩ = i) := atSe_is (by have := EA.out; omega) HT.out (fun h => HLT.out)
              have hTk := hl.take enSe_len i (by omega)
              have hDk : Row enSe 6 w (.slice (some (ad.add (i * 6))) (n - i) (c - i)) (l.drop i) := by
                have := hl.drop enSe_len i (by omega)
                rwa [if_neg (by omega)] at this
              have HTK := Lib.hid hTk
              have HDK := Lib.hid hDk
              have y1 : i ≤ n := by omega
              have y2 : i ≤ c := by omega
              have y3 : ¬ (c = i) := by omega
              have y4 : (i : Int) ≤ (n : Int) := by omega
              have y5 : (i : Int) ≤ (c : Int) := by omega
              clear hTk hDk
              have O2 := (HEN.out wx).lower (base' := (w.alloc (bxSe u i_ a p n_ t)).heap.size) hD.size
              have B3 := hD.alloc hD.size (.cells #[] 34)
              go_wp2_with (first | (at_builtin; refine Own.appendRow (w0 := (w.alloc (bxSe u i_ a p n_ t))) (w.alloc (bxSe u i_ a p n_ t)).heap.size rfl (.tmp 53) (.tmp 56) 22 34 zvSe 6 64 rfl Try.underlying22 infoSe rfl (by decide) (.slice (some ⟨wx.heap.size, 0, none⟩) 0 0) (.slice (some ad) i c) [] (l.take i) rfl rfl enSe_one O2 ((HTK.out).below (below_call hBx B3)) B3 B3.size (by have := HZ1.out; simp only [List.length_nil, List.length_take]; omega) (by have := HZ1.out; simp only [List.length_nil, List.length_take]; omega) ?_; intro v4 w4 hO4 hB4 _ _; (obtain ⟨s0, s1, s2, s3, s4, s5, sz⟩ := cellsSe u i_ a p n_ t (hcall hbox hB4))) | (at_builtin; refine Own.append (w0 := (w.alloc (bxSe u i_ a p n_ t))) (w.alloc (bxSe u i_ a p n_ t)).heap.size rfl (.tmp 58) (.tmp 60) 22 34 zvSe 6 64 rfl Try.underlying22 infoSe rfl (by decide) v4 ([] ++ (l.take i)) ⟨u, i_, a, p, n_, t⟩ (enSe ⟨u, i_, a, p, n_, t⟩) rfl rfl rfl rfl (enSe_one _) hO4 hB4 hB4.size (by have := HZ1.out; simp only [List.length_append, List.length_nil, List.length_take]; omega) (by have := HZ1.out; simp only [List.length_append, List.length_nil, List.length_take]; omega) ?_; intro v5 w5 hO5 hB5 _ _) | (at_builtin; refine Own.appendRow (w0 := (w.alloc (bxSe u i_ a p n_ t))) (w.alloc (bxSe u i_ a p n_ t)).heap.size rfl (.tmp 62) (.tmp 65) 22 34 zvSe 6 64 rfl Try.underlying22 infoSe rfl (by decide) v5 (.slice (some (ad.add (i * 6))) (n - i) (c - i)) ([] ++ (l.take i) ++ [⟨u, i_, a, p, n_, t⟩]) (l.drop i) rfl rfl enSe_one hO5 (HDK.out.below (below_call hBx hB5)) hB5 hB5.size (by have := HZ1.out; simp only [List.length_append, List.length_nil, List.length_cons, List.length_take, List.length_drop]; omega) (by have := HZ1.out; simp only [List.length_append, List.length_nil, List.length_cons, List.length_take, List.length_drop]; omega) ?_; intro v6 w6 hO6 hB6 _ _))
              all_goals
                go_ret2
                rw [HF.out.1, HF.out.2, HAT.out]
                refine ⟨_, rfl, ?_, below_call hBx hB6⟩
                have := hO6.row
                simpa using this
        · have hin : i = n := by omega
          subst hin
          have HAT : Hid (atSe l ⟨u, i_, a, p, n_, t⟩ = i) := atSe_is (by have := EA.out; omega) HT.out (fun h => absurd h (by have := EA.out; omega))
          have HDN : Hid (l.take i = l ∧ l.drop i = []) := ⟨List.take_of_length_le (by have := EA.out; omega), List.drop_eq_nil_of_le (by have := EA.out; omega)⟩
          have HRE : Hid (∀ (W : World) (A' : Option Addr) (c' : Nat), c' ≤ 9223372036854775807 → Row enSe 6 W (.slice A' 0 c') []) := fun W A' c' h => Row.empty enSe 6 W A' c' h
          obtain h0 | h0 : i = 0 ∨ 0 < i := by omega
          · subst h0
            have HTK := Lib.hid (hl.take enSe_len 0 (by omega))
            have hd1 : decide ((0 : Int) < ((0 : Nat) : Int)) = false := by decide
            go_wp2_with fail
            go_quiet (fail)
            have hD : Below (w.alloc (bxSe u i_ a p n_ t)).heap.size (w.alloc (bxSe u i_ a p n_ t)) (wr.drewN nq) := below_drewN hB _
            have O2 := (HEN.out wr).lower (base' := (w.alloc (bxSe u i_ a p n_ t)).heap.size) hD.size
            have B3 := hD.alloc hD.size (.cells #[] 34)
            go_wp2_with (first | (at_builtin; refine Own.appendRow (w0 := (w.alloc (bxSe u i_ a p n_ t))) (w.alloc (bxSe u i_ a p n_ t)).heap.size rfl (.tmp 53) (.tmp 56) 22 34 zvSe 6 64 rfl Try.underlying22 infoSe rfl (by decide) (.slice (some ⟨wr.heap.size, 0, none⟩) 0 0) (.slice A 0 c) [] (l.take 0) rfl rfl enSe_one O2 ((HTK.out).below (below_call hBx B3)) B3 B3.size (by have := HZ1.out; simp only [List.length_nil, List.length_take]; omega) (by have := HZ1.out; simp only [List.length_nil, List.length_take]; omega) ?_; intro v4 w4 hO4 hB4 _ _; (obtain ⟨s0, s1, s2, s3, s4, s5, sz⟩ := cellsSe u i_ a p n_ t (hcall hbox hB4))) | (at_builtin; refine Own.append (w0 := (w.alloc (bxSe u i_ a p n_ t))) (w.alloc (bxSe u i_ a p n_ t)).heap.size rfl (.tmp 58) (.tmp 60) 22 34 zvSe 6 64 rfl Try.underlying22 infoSe rfl (by decide) v4 ([] ++ (l.take 0)) ⟨u, i_, a, p, n_, t⟩ (enSe ⟨u, i_, a, p, n_, t⟩) rfl rfl rfl rfl (enSe_one _) hO4 hB4 hB4.size (by have := HZ1.out; simp only [List.length_append, List.length_nil, List.length_take]; omega) (by have := HZ1.out; simp only [List.length_append, List.length_nil, List.length_take]; omega) ?_; intro v5 w5 hO5 hB5 _ _) | (at_builtin; refine Own.appendRow (w0 := (w.alloc (bxSe u i_ a p n_ t))) (w.alloc (bxSe u i_ a p n_ t)).heap.size rfl (.tmp 62) (.tmp 65) 22 34 zvSe 6 64 rfl Try.underlying22 infoSe rfl (by decide) v5 _ ([] ++ (l.take 0) ++ [⟨u, i_, a, p, n_, t⟩]) [] rfl rfl enSe_one hO5 (HRE.out _ _ _ (by omega)) hB5 hB5.size (by have := HZ1.out; simp only [List.length_append, List.length_nil, List.length_cons, List.length_take, List.length_drop]; omega) (by have := HZ1.out; simp only [List.length_append, List.length_nil, List.length_cons, List.length_take, List.length_drop]; omega) ?_; intro v6 w6 hO6 hB6 _ _))
            all_goals
              go_ret2
              rw [HF.out.1, HF.out.2, HAT.out, HDN.out.2]
              refine ⟨_, rfl, ?_, below_call hBx hB6⟩
              have := hO6.row
              simpa using this
          · by_cases hci : c = i
            · subst hci
              have HTK := Lib.hid (hl.take enSe_len c (by omega))
              have hd1 : decide ((c : Int) < (c : Int)) = false := by simp
              go_wp2_with fail
              go_quiet (fail)
              have hD : Below (w.alloc (bxSe u i_ a p n_ t)).heap.size (w.alloc (bxSe u i_ a p n_ t)) (wr.drewN nq) := below_drewN hB _
              have O2 := (HEN.out wr).lower (base' := (w.alloc (bxSe u i_ a p n_ t)).heap.size) hD.size
              have B3 := hD.alloc hD.size (.cells #[] 34)
              go_wp2_with (first | (at_builtin; refine Own.appendRow (w0 := (w.alloc (bxSe u i_ a p n_ t))) (w.alloc (bxSe u i_ a p n_ t)).heap.size rfl (.tmp 53) (.tmp 56) 22 34 zvSe 6 64 rfl Try.underlying22 infoSe rfl (by decide) (.slice (some ⟨wr.heap.size, 0, none⟩) 0 0) (.slice A c c) [] (l.take c) rfl rfl enSe_one O2 ((HTK.out).below (below_call hBx B3)) B3 B3.size (by have := HZ1.out; simp only [List.length_nil, List.length_take]; omega) (by have := HZ1.out; simp only [List.length_nil, List.length_take]; omega) ?_; intro v4 w4 hO4 hB4 _ _; (obtain ⟨s0, s1, s2, s3, s4, s5, sz⟩ := cellsSe u i_ a p n_ t (hcall hbox hB4))) | (at_builtin; refine Own.append (w0 := (w.alloc (bxSe u i_ a p n_ t))) (w.alloc (bxSe u i_ a p n_ t)).heap.size rfl (.tmp 58) (.tmp 60) 22 34 zvSe 6 64 rfl Try.underlying22 infoSe rfl (by decide) v4 ([] ++ (l.take c)) ⟨u, i_, a, p, n_, t⟩ (enSe ⟨u, i_, a, p, n_, t⟩) rfl rfl rfl rfl (enSe_one _) hO4 hB4 hB4.size (by have := HZ1.out; simp only [List.length_append, List.length_nil, List.length_take]; omega) (by have := HZ1.out; simp only [List.length_append, List.length_nil, List.length_take]; omega) ?_; intro v5 w5 hO5 hB5 _ _) | (at_builtin; refine Own.appendRow (w0 := (w.alloc (bxSe u i_ a p n_ t))) (w.alloc (bxSe u i_ a p n_ t)).heap.size rfl (.tmp 62) (.tmp 65) 22 34 zvSe 6 64 rfl Try.underlying22 infoSe rfl (by decide) v5 _ ([] ++ (l.take c) ++ [⟨u, i_, a, p, n_, t⟩]) [] rfl rfl enSe_one hO5 (HRE.out _ _ _ (by omega)) hB5 hB5.size (by have := HZ1.out; simp only [List.length_append, List.length_nil, List.length_cons, List.length_take, List.length_drop]; omega) (by have := HZ1.out; simp only [List.length_append, List.length_nil, List.length_cons, List.length_take, List.length_drop]; omega) ?_; intro v6 w6 hO6 hB6 _ _))
              all_goals
                go_ret2
                rw [HF.out.1, HF.out.2, HAT.out, HDN.out.2]
                refine ⟨_, rfl, ?_, below_call hBx hB6⟩
                have := hO6.row
                simpa using this
            · have hci' : i < c := by omega
              have HTK := Lib.hid (hl.take enSe_len i (by omega))
              have hd1 : decide ((i : Int) < (i : Int)) = false := by simp
              go_wp2_with fail
              go_quiet (fail)
              have hD : Below (w.alloc (bxSe u i_ a p n_ t)).heap.size (w.alloc (bxSe u i_ a p n_ t)) (wr.drewN nq) := below_drewN hB _
              have O2 := (HEN.out wr).lower (base' := (w.alloc (bxSe u i_ a p n_ t)).heap.size) hD.size
              have B3 := hD.alloc hD.size (.cells #[] 34)
              go_wp2_with (first | (at_builtin; refine Own.appendRow (w0 := (w.alloc (bxSe u i_ a p n_ t))) (w.alloc (bxSe u i_ a p n_ t)).heap.size rfl (.tmp 53) (.tmp 56) 22 34 zvSe 6 64 rfl Try.underlying22 infoSe rfl (by decide) (.slice (some ⟨wr.heap.size, 0, none⟩) 0 0) (.slice A i c) [] (l.take i) rfl rfl enSe_one O2 ((HTK.out).below (below_call hBx B3)) B3 B3.size (by have := HZ1.out; simp only [List.length_nil, List.length_take]; omega) (by have := HZ1.out; simp only [List.length_nil, List.length_take]; omega) ?_; intro v4 w4 hO4 hB4 _ _; (obtain ⟨s0, s1, s2, s3, s4, s5, sz⟩ := cellsSe u i_ a p n_ t (hcall hbox hB4))) | (at_builtin; refine Own.append (w0 := (w.alloc (bxSe u i_ a p n_ t))) (w.alloc (bxSe u i_ a p n_ t)).heap.size rfl (.tmp 58) (.tmp 60) 22 34 zvSe 6 64 rfl Try.underlying22 infoSe rfl (by decide) v4 ([] ++ (l.take i)) ⟨u, i_, a, p, n_, t⟩ (enSe ⟨u, i_, a, p, n_, t⟩) rfl rfl rfl rfl (enSe_one _) hO4 hB4 hB4.size (by have := HZ1.out; simp only [List.length_append, List.length_nil, List.length_take]; omega) (by have := HZ1.out; simp only [List.length_append, List.length_nil, List.length_take]; omega) ?_; intro v5 w5 hO5 hB5 _ _) | (at_builtin; refine Own.appendRow (w0 := (w.alloc (bxSe u i_ a p n_ t))) (w.alloc (bxSe u i_ a p n_ t)).heap.size rfl (.tmp 62) (.tmp 65) 22 34 zvSe 6 64 rfl Try.underlying22 infoSe rfl (by decide) v5 _ ([] ++ (l.take i) ++ [⟨u, i_, a, p, n_, t⟩]) [] rfl rfl enSe_one hO5 (HRE.out _ _ _ (by omega)) hB5 hB5.size (by have := HZ1.out; simp only [List.length_append, List.length_nil, List.length_cons, List.length_take, List.length_drop]; omega) (by have := HZ1.out; simp only [List.length_append, List.length_nil, List.length_cons, List.length_take, List.length_drop]; omega) ?_; intro v6 w6 hO6 hB6 _ _))
              all_goals
                go_ret2
                rw [HF.out.1, HF.out.2, HAT.out, HDN.out.2]
                refine ⟨_, rfl, ?_, below_call hBx hB6⟩
                have := hO6.row
                simpa using this
end Go.Proofs.Ytcopiimflloooaa
