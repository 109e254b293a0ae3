/-
Layer 5: the walk of DigestChanges.
-/
import Derived.Test.YtcopiimflloooaaDigT
import Derived.BigQuiet
set_option linter.unusedVariables false
set_option linter.unusedSimpArgs false
namespace Go.Proofs.Ytcopiimflloooaa
open Go.RowKit
open Sp
namespace Sp
/-- The first i changes set, but for the one that is skipped. -/
def lessT (l : List Sn) (ch : List Ch) (sk : Int) : Nat → List Sn
  | 0 => l
  | i + 1 => if (i : Int) = sk then lessT l ch sk i else match ch[i]? with
    | some x => setT (lessT l ch sk i) x
    | none => lessT l ch sk i
theorem lessT_all (l : List Sn) (ch : List Ch) (sk : Int) : ∀ i, i ≤ ch.length → (sk < 0 ∨ (i : Int) ≤ sk) → lessT l ch sk i = (ch.take i).foldl setT l := by
  intro i
  induction i with
  | zero => intro _ _; rfl
  | succ i ih =>
    intro h1 h2
    unfold lessT
    rw [if_neg (by omega), List.getElem?_eq_getElem (by omega), List.take_succ_eq_append_getElem (by omega), List.foldl_append, ih (by omega) (by omega)]
    rfl
theorem lessT_skip (l : List Sn) (ch : List Ch) (k : Nat) : ∀ i, i ≤ ch.length → k < i → lessT l ch (k : Int) i = (ch.take k ++ (ch.take i).drop (k + 1)).foldl setT l := by
  intro i
  induction i with
  | zero => intro _ h; omega
  | succ i ih =>
    intro h1 h2
    unfold lessT
    by_cases hk : i = k
    · subst hk
      rw [if_pos rfl, lessT_all l ch _ i (by omega) (by omega), List.drop_eq_nil_of_le (by rw [List.length_take]; omega), List.append_nil]
    · rw [if_neg (by omega), List.getElem?_eq_getElem (by omega), ih (by omega) (by omega), List.take_succ_eq_append_getElem (by omega), List.drop_append_of_le_length (by rw [List.length_take]; omega), ← List.append_assoc, List.foldl_append (l' := [_])]
      rfl
theorem lessT_end {l m : List Sn} (hl : OrdT l) (hm : OrdT m) (sk : Int) : decide (lessT l (changesT l m) sk (changesT l m).length = m) = (decide (sk < 0) || decide (((changesT l m).length : Int) ≤ sk)) := by
  by_cases h : sk < 0 ∨ ((changesT l m).length : Int) ≤ sk
  · rw [lessT_all l _ sk _ (Nat.le_refl _) (by omega), List.take_of_length_le (Nat.le_refl _), changes_back hl hm, decide_eq_true rfl]
    rcases h with h | h
    · rw [decide_eq_true h]; rfl
    · rw [decide_eq_true h, Bool.or_true]
  · obtain ⟨k, rfl⟩ : ∃ k : Nat, sk = (k : Int) := ⟨sk.toNat, by omega⟩
    rw [lessT_skip l _ k _ (Nat.le_refl _) (by omega), List.take_of_length_le (Nat.le_refl _), decide_eq_false (changes_skip hl k (by omega)), decide_eq_false (by omega), decide_eq_false (by omega)]
    rfl
theorem changesT_len (l m : List Sn) : (changesT l m).length ≤ l.length + m.length := by
  have h1 := mergeS_len (l.map Sn.c) (m.map Sn.c)
  rw [List.length_map, List.length_map] at h1
  have h2 := List.length_filterMap_le (chT l m) (namesT l m)
  unfold changesT
  unfold namesT at h2 ⊢
  omega
end Sp
set_option maxHeartbeats 32000000 in
set_option maxRecDepth 100000 in
theorem changes5_walk (n c : Nat) (A : Option Addr) (l : List Sn) (n2 c2 : Nat) (A2 : Option Addr) (m : List Sn) (sk : Int) (w : World) (hl : Row enSn 5 w (.slice A n c) l) (hz : SzN l) (hm : Row enSn 5 w (.slice A2 n2 c2) m) (hz2 : SzN m) :
    Calls Try.prog 12 #[.slice A n c, .slice A2 n2 c2, .int .i64 sk] w fun e w' => e = .returned (.bool true) ∧ Below w.heap.size w w' := by
  have EA := Lib.hid hl.len_eq
  have EB := Lib.hid hm.len_eq
  have D := Below.refl w.heap.size w
  cases h : fewT l with
  | false =>
    have H := Lib.hid h
    clear h
    go_enter Try.func12, Try.ntmps12
    go_wp2_with fail
    with_reducible refine (few5_is n c A l _ (hl.below D) false hz H).mono ?_
    rintro e w1 ⟨rfl, b1⟩
    replace D := below_call D b1
    clear b1
    go_wp2_with fail
    with_reducible refine (live05 _).mono ?_
    rintro e w2 ⟨rfl, b2⟩
    replace D := below_call D b2
    clear b2
    go_wp2
    go_ret
    exact ⟨rfl, D⟩
  | true =>
  obtain ⟨hs, h50⟩ := fewT_sz h
  have hn : n ≤ 1000 := by have := EA.out; omega
  have H := Lib.hid h
  clear h h50
  cases h : fewT m with
  | false =>
    have H2 := Lib.hid h
    clear h
    go_enter Try.func12, Try.ntmps12
    go_wp2_with fail
    with_reducible refine (few5_is n c A l _ (hl.below D) true hz H).mono ?_
    rintro e w1 ⟨rfl, b1⟩
    replace D := below_call D b1
    clear b1
    go_wp2_with fail
    with_reducible refine (few5_is n2 c2 A2 m _ (hm.below D) false hz2 H2).mono ?_
    rintro e w2 ⟨rfl, b2⟩
    replace D := below_call D b2
    clear b2
    go_wp2_with fail
    with_reducible refine (live05 _).mono ?_
    rintro e w3 ⟨rfl, b3⟩
    replace D := below_call D b3
    clear b3
    go_wp2
    go_ret
    exact ⟨rfl, D⟩
  | true =>
  obtain ⟨hs2, h50⟩ := fewT_sz h
  have hn2 : n2 ≤ 1000 := by have := EB.out; omega
  have H2 := Lib.hid h
  clear h h50
  cases h : mayT l with
  | false =>
    have HM := Lib.hid h
    clear h
    go_enter Try.func12, Try.ntmps12
    go_wp2_with fail
    with_reducible refine (few5_is n c A l _ (hl.below D) true hz H).mono ?_
    rintro e w1 ⟨rfl, b1⟩
    replace D := below_call D b1
    clear b1
    go_wp2_with fail
    with_reducible refine (few5_is n2 c2 A2 m _ (hm.below D) true hz2 H2).mono ?_
    rintro e w2 ⟨rfl, b2⟩
    replace D := below_call D b2
    clear b2
    go_wp2_with fail
    with_reducible refine (refMay5_is n c A l _ (hl.below D) false hs HM).mono ?_
    rintro e w3 ⟨rfl, b3⟩
    replace D := below_call D b3
    clear b3
    go_wp2_with fail
    with_reducible refine (live05 _).mono ?_
    rintro e w4 ⟨rfl, b4⟩
    replace D := below_call D b4
    clear b4
    go_wp2
    go_ret
    exact ⟨rfl, D⟩
  | true =>
  have h1 := Lib.hid h
  have HM := Lib.hid h
  clear h
  cases h : mayT m with
  | false =>
    have HM2 := Lib.hid h
    clear h
    go_enter Try.func12, Try.ntmps12
    go_wp2_with fail
    with_reducible refine (few5_is n c A l _ (hl.below D) true hz H).mono ?_
    rintro e w1 ⟨rfl, b1⟩
    replace D := below_call D b1
    clear b1
    go_wp2_with fail
    with_reducible refine (few5_is n2 c2 A2 m _ (hm.below D) true hz2 H2).mono ?_
    rintro e w2 ⟨rfl, b2⟩
    replace D := below_call D b2
    clear b2
    go_wp2_with fail
    with_reducible refine (refMay5_is n c A l _ (hl.below D) true hs HM).mono ?_
    rintro e w3 ⟨rfl, b3⟩
    replace D := below_call D b3
    clear b3
    go_wp2_with fail
    with_reducible refine (refMay5_is n2 c2 A2 m _ (hm.below D) false hs2 HM2).mono ?_
    rintro e w4 ⟨rfl, b4⟩
    replace D := below_call D b4
    clear b4
    go_wp2_with fail
    with_reducible refine (live05 _).mono ?_
    rintro e w5 ⟨rfl, b5⟩
    replace D := below_call D b5
    clear b5
    go_wp2
    go_ret
    exact ⟨rfl, D⟩
  | true =>
  have h2 := Lib.hid h
  have HM2 := Lib.hid h
  clear h
  have hl32 := ((mayT_iff l).1 h1.out).1
  have hm32 := ((mayT_iff m).1 h2.out).1
  have HEND := Lib.hid (lessT_end (mayT_ord h1.out) (mayT_ord h2.out) sk)
  have HBACK := Lib.hid (changes_back (mayT_ord h1.out) (mayT_ord h2.out))
  have HNE := Lib.hid (changes_ne l m)
  have hcl := changesT_len l m
  obtain ⟨ch, hch⟩ : ∃ ch, changesT l m = ch := ⟨_, rfl⟩
  rw [hch] at HEND HBACK HNE hcl
  have HCH := Lib.hid hch
  have hc64 : ch.length ≤ 64 := by omega
  clear hch hcl hm32
  go_enter Try.func12, Try.ntmps12
  go_wp2_with fail
  with_reducible refine (few5_is n c A l _ (hl.below D) true hz H).mono ?_
  rintro e w1 ⟨rfl, b1⟩
  replace D := below_call D b1
  clear b1
  go_wp2_with fail
  with_reducible refine (few5_is n2 c2 A2 m _ (hm.below D) true hz2 H2).mono ?_
  rintro e w2 ⟨rfl, b2⟩
  replace D := below_call D b2
  clear b2
  go_wp2_with fail
  with_reducible refine (refMay5_is n c A l _ (hl.below D) true hs HM).mono ?_
  rintro e w3 ⟨rfl, b3⟩
  replace D := below_call D b3
  clear b3
  go_wp2_with fail
  with_reducible refine (refMay5_is n2 c2 A2 m _ (hm.below D) true hs2 HM2).mono ?_
  rintro e w4 ⟨rfl, b4⟩
  replace D := below_call D b4
  clear b4
  go_wp2_with fail
  with_reducible refine (Changes5_is n c A l _ (hl.below D) n2 c2 A2 m (hm.below D) ch hn hn2 HCH).mono ?_
  rintro e w5 ⟨v5, rfl, r5, b5⟩
  replace D := below_call D b5
  clear b5
  obtain ⟨A5, c5, rfl⟩ := r5.form5 _ rfl
  go_wp2
  go_loopw [8, 9, 10] (fun v8 v9 v10 wr => ∃ (i : Nat) (ws ls : List Sn), v10 = .int .i64 i ∧ i ≤ ch.length ∧ ws.length ≤ 32 + i ∧ ls.length ≤ 32 + i ∧ Hid ((ch.take i).foldl setT l = ws) ∧ Hid (lessT l ch sk i = ls) ∧ Row enSn 5 wr v8 ws ∧ Row enSn 5 wr v9 ls ∧ Below w5.heap.size w5 wr) (fun _ _ v10 _ => (ch.length - intOf v10).toNat)
  case atStart => exact ⟨0, l, l, rfl, Nat.zero_le _, hl32, hl32, rfl, rfl, hl.below D, hl.below D, Below.refl _ _⟩
  case round =>
    obtain ⟨i, ws, ls, rfl, hi, hws, hls, HT, HL, rw8, rw9, hB⟩ := hrel
    obtain ⟨A8, c8, rfl⟩ := rw8.form5 _ rfl
    obtain ⟨A9, c9, rfl⟩ := rw9.form5 _ rfl
    by_cases hlt : i < ch.length
    · obtain ⟨⟨a_, b_, c_, d_, e_, f_⟩, he⟩ : ∃ e, ch[i] = e := ⟨_, rfl⟩
      obtain ⟨r1, hr1⟩ : ∃ r, setT ws ⟨a_, b_, c_, d_, e_, f_⟩ = r := ⟨_, rfl⟩
      obtain ⟨r2, hr2⟩ : ∃ r, setT ls ⟨a_, b_, c_, d_, e_, f_⟩ = r := ⟨_, rfl⟩
      have HT2 : Hid ((ch.take (i + 1)).foldl setT l = r1) := by
        show _ = _
        rw [List.take_succ_eq_append_getElem hlt, List.foldl_append, HT.out, he]
        exact hr1
      have HL2 : (i : Int) ≠ sk → Hid (lessT l ch sk (i + 1) = r2) := fun hne => by
        show _ = _
        unfold lessT
        rw [if_neg hne, List.getElem?_eq_getElem hlt, he, HL.out]
        exact hr2
      have HL3 : (i : Int) = sk → Hid (lessT l ch sk (i + 1) = ls) := fun hne => by
        show _ = _
        unfold lessT
        rw [if_pos hne]
        exact HL.out
      have hr1l : r1.length ≤ 32 + (i + 1) := by rw [← hr1]; have := setT_len_any ws ⟨a_, b_, c_, d_, e_, f_⟩; omega
      have hr2l : r2.length ≤ 32 + (i + 1) := by rw [← hr2]; have := setT_len_any ls ⟨a_, b_, c_, d_, e_, f_⟩; omega
      have HR1 := Lib.hid hr1
      have HR2 := Lib.hid hr2
      have HHL2 := Lib.hid HL2
      have HHL3 := Lib.hid HL3
      have HE := Lib.hid he
      clear hr1 hr2 HT HL2 HL3
      obtain ⟨wo, rfl⟩ : ∃ wo, wo = wr := ⟨_, rfl⟩
      go_wp2
      go_loopw [11] (fun v11 wk => ∃ k : Nat, v11 = .int .i64 k ∧ k ≤ i ∧ Below wo.heap.size wo wk) (fun v11 _ => (i - intOf v11).toNat)
      case atStart => exact ⟨0, rfl, Nat.zero_le _, Below.refl _ _⟩
      case round =>
        obtain ⟨k, rfl, hk, hBk⟩ := hrel
        by_cases hki : k < i
        · obtain ⟨⟨a_', b_', c_', d_', e_', f_'⟩, he'⟩ : ∃ e, ch[k] = e := ⟨_, rfl⟩
          obtain ⟨ad, rfl, c0, -⟩ := rowCh (r5.below (below_call hB hBk)) i hlt a_ b_ c_ d_ e_ f_ HE.out
          obtain ⟨d0, -⟩ := rowsCh (r5.below (below_call hB hBk)) k (by omega) a_' b_' c_' d_' e_' f_' he'
          have hne : a_' ≠ a_ := by
            have := List.pairwise_iff_getElem.1 HNE.out k i (by omega) hlt hki
            rwa [he', HE.out] at this
          have hne2 : (a_'.toList == a_.toList) = false := by simpa [toList_inj'] using hne
          have hne3 : ¬ a_'.toList = a_.toList := by simpa [toList_inj'] using hne
          have x1 : (0 : Int) ≤ (i : Int) := by omega
          have x2 : (i : Int) < (ch.length : Int) := by omega
          have x3 : (0 : Int) ≤ (k : Int) := by omega
          have x4 : (k : Int) < (ch.length : Int) := by omega
          clear hne he'
          go_wp2_with fail
          go_quiet (fail)
          have hB2 : Below wo.heap.size wo (wr.drewN nq) := below_drewN hBk _
          go_wp2
          exact ⟨⟨k + 1, by go_num, by omega, hB2⟩, by simp [intOf]; omega⟩
        · obtain rfl : k = i := by omega
          replace hB := below_call hB hBk
          replace rw8 := rw8.below hBk
          replace rw9 := rw9.below hBk
          obtain ⟨ad, rfl, c0, c1, c2', c3, c4, c5'⟩ := rowCh (r5.below hB) k hlt a_ b_ c_ d_ e_ f_ HE.out
          clear hBk
          go_wp2_with fail
          with_reducible refine (Set5_is _ _ _ ws _ rw8 a_ b_ c_ d_ e_ f_ r1 (by omega) HR1).mono ?_
          rintro e w6 ⟨v6, rfl, r6, b6⟩
          replace hB := below_call hB b6
          replace rw9 := rw9.below b6
          replace c0 := cell_below b6 c0
          replace c1 := cell_below b6 c1
          replace c2' := cell_below b6 c2'
          replace c3 := cell_below b6 c3
          replace c4 := cell_below b6 c4
          replace c5' := cell_below b6 c5'
          clear b6 rw8
          by_cases hsk : (k : Int) = sk
          · have HN := HHL3.out hsk
            have hsb : ((k : Int) == sk) = true := by simpa using hsk
            go_wp2
            exact ⟨⟨k + 1, r1, ls, by go_num, by omega, hr1l, by omega, HT2, HN, r6, rw9, hB⟩, by simp [intOf]; omega⟩
          · have HN := HHL2.out hsk
            have hsb : ((k : Int) == sk) = false := by simpa using hsk
            go_wp2_with fail
            with_reducible refine (Set5_is _ _ _ ls _ rw9 a_ b_ c_ d_ e_ f_ r2 (by omega) HR2).mono ?_
            rintro e w7 ⟨v7, rfl, r7, b7⟩
            replace hB := below_call hB b7
            replace r6 := r6.below b7
            clear b7 rw9 c0 c1 c2' c3 c4 c5'
            go_wp2
            exact ⟨⟨k + 1, r1, r2, by go_num, by omega, hr1l, hr2l, HT2, HN, r6, r7, hB⟩, by simp [intOf]; omega⟩
    · have hin : i = ch.length := by omega
      subst hin
      have hwm : ws = m := by
        have := HT.out
        rw [List.take_of_length_le (Nat.le_refl _), HBACK.out] at this
        exact this.symm
      subst hwm
      have HE2 := HEND.out
      rw [HL.out] at HE2
      have HEB := Lib.hid HE2
      replace D := below_call D hB
      clear HE2 HT hB
      obtain ⟨bs, hbs⟩ : ∃ bs, decide (ls = ws) = bs := ⟨_, rfl⟩
      have HBS := Lib.hid hbs
      have hbb : bs = (decide (sk < 0) || decide ((ch.length : Int) ≤ sk)) := by rw [← hbs]; exact HEB.out
      clear hbs
      go_wp2_with fail
      with_reducible refine (Same5_is _ _ _ ws _ rw8 n2 c2 A2 ws (hm.below D) true (Lib.hid (decide_eq_true rfl))).mono ?_
      rintro e w6 ⟨rfl, b6⟩
      replace rw8 := rw8.below b6
      replace rw9 := rw9.below b6
      replace D := below_call D b6
      clear b6
      go_wp2_with fail
      with_reducible refine (Changes5_is n c A l _ (hl.below D) n c A l (hl.below D) [] hn hn (Lib.hid (changes_self l))).mono ?_
      rintro e w7 ⟨v7, rfl, r7, b7⟩
      replace rw8 := rw8.below b7
      replace rw9 := rw9.below b7
      replace D := below_call D b7
      clear b7
      obtain ⟨A7, c7, rfl⟩ := r7.form5 0 rfl
      clear r7
      go_wp2_with fail
      with_reducible refine (Same5_is _ _ _ ls _ rw9 n2 c2 A2 ws (hm.below D) bs HBS).mono ?_
      rintro e w8 ⟨rfl, b8⟩
      replace rw8 := rw8.below b8
      replace rw9 := rw9.below b8
      replace D := below_call D b8
      clear b8
      clear rw8 rw9
      by_cases hs0 : sk < 0
      · have g1 : decide (sk < 0) = true := decide_eq_true hs0
        rw [g1, Bool.true_or] at hbb
        subst hbb
        go_wp2_with fail
        with_reducible refine (live05 _).mono ?_
        rintro e w9 ⟨rfl, b9⟩
        replace D := below_call D b9
        clear b9
        go_wp2
        go_ret
        exact ⟨rfl, D⟩
      · have g1 : decide (sk < 0) = false := decide_eq_false hs0
        by_cases hs1 : (ch.length : Int) ≤ sk
        · have g2 : decide ((ch.length : Int) ≤ sk) = true := decide_eq_true hs1
          rw [g2, Bool.or_true] at hbb
          subst hbb
          go_wp2_with fail
          with_reducible refine (live05 _).mono ?_
          rintro e w9 ⟨rfl, b9⟩
          replace D := below_call D b9
          clear b9
          go_wp2
          go_ret
          exact ⟨rfl, D⟩
        · have g2 : decide ((ch.length : Int) ≤ sk) = false := decide_eq_false hs1
          rw [g1, g2, Bool.or_false] at hbb
          subst hbb
          go_wp2_with fail
          with_reducible refine (live05 _).mono ?_
          rintro e w9 ⟨rfl, b9⟩
          replace D := below_call D b9
          clear b9
          go_wp2
          go_ret
          exact ⟨rfl, D⟩
end Go.Proofs.Ytcopiimflloooaa
