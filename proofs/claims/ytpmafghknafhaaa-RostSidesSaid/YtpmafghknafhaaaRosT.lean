/-
Layer 8: the walk of RostSides.
-/
import Derived.Test.YtpmafghknafhaaaRosS
import Derived.Test.YtpmafghknafhaaaRosB
set_option linter.unusedVariables false
set_option linter.unusedSimpArgs false
namespace Go.Proofs.Ytpmafghknafhaaa
open Go.RowKit
open Sp
def sumO (l : List En) (us : List ByteArray) : Nat := (us.map fun u => (ofRo l u).length).sum
theorem sumO_snoc (l : List En) (us : List ByteArray) (i : Nat) (hi : i < us.length) : sumO l (us.take (i + 1)) = sumO l (us.take i) + (ofRo l us[i]).length := by
  unfold sumO
  rw [List.take_succ_eq_append_getElem hi, List.map_append, List.sum_append]
  rfl
theorem sumO_le (l : List En) (us : List ByteArray) (i : Nat) : sumO l (us.take i) ≤ sumO l us := by
  have : sumO l us = sumO l (us.take i) + sumO l (us.drop i) := by
    unfold sumO
    rw [← List.sum_append, ← List.map_append, List.take_append_drop]
  omega
theorem ofRo_le (l : List En) (q : ByteArray) : (ofRo l q).length ≤ l.length := by
  unfold ofRo
  rw [List.length_map]
  exact List.length_filter_le _ _
theorem among_in {l : List ByteArray} {o : ByteArray} (h : o ∈ l) : amongL l o = true := List.any_eq_true.2 ⟨o, h, decide_eq_true rfl⟩
theorem fit8_is (a b c d e a' b' c' d' e' : Bool) (h : Hid (fitI ⟨a, b, c, d, e⟩ ⟨a', b', c', d', e'⟩ = true)) (w : World) : Calls Try.prog 30 #[agI a b c d e, agI a' b' c' d' e'] w fun x w' => x = .returned (.bool true) ∧ Below w.heap.size w w' := re_ (MayI_calls a b c d e a' b' c' d' e' w) (ret_bool h.out)
noncomputable def opssc : Array Oper := Held.inBody 23 Try.f8.body
def ordsc : List Nat := [0, 1, 2, 3, 4, 5, 6, 7, 8, 9, 10, 11, 12]
set_option maxRecDepth 100000 in
theorem sizsc : opssc.size = 13 := by kernel_rfl
set_option maxRecDepth 100000 in
theorem nossc : Region.noSelect opssc = true := by kernel_rfl
set_option maxRecDepth 100000 in
theorem okksc_0 : Held.okAt opssc ordsc 0 = true := by kernel_rfl
set_option maxRecDepth 100000 in
theorem okksc_1 : Held.okAt opssc ordsc 1 = true := by kernel_rfl
set_option maxRecDepth 100000 in
theorem okksc_2 : Held.okAt opssc ordsc 2 = true := by kernel_rfl
set_option maxRecDepth 100000 in
theorem okksc_3 : Held.okAt opssc ordsc 3 = true := by kernel_rfl
set_option maxRecDepth 100000 in
theorem okksc_4 : Held.okAt opssc ordsc 4 = true := by kernel_rfl
set_option maxRecDepth 100000 in
theorem okksc_5 : Held.okAt opssc ordsc 5 = true := by kernel_rfl
set_option maxRecDepth 100000 in
theorem okksc_6 : Held.okAt opssc ordsc 6 = true := by kernel_rfl
set_option maxRecDepth 100000 in
theorem okksc_7 : Held.okAt opssc ordsc 7 = true := by kernel_rfl
set_option maxRecDepth 100000 in
theorem okksc_8 : Held.okAt opssc ordsc 8 = true := by kernel_rfl
set_option maxRecDepth 100000 in
theorem okksc_9 : Held.okAt opssc ordsc 9 = true := by kernel_rfl
set_option maxRecDepth 100000 in
theorem okksc_10 : Held.okAt opssc ordsc 10 = true := by kernel_rfl
set_option maxRecDepth 100000 in
theorem okksc_11 : Held.okAt opssc ordsc 11 = true := by kernel_rfl
set_option maxRecDepth 100000 in
theorem okksc_12 : Held.okAt opssc ordsc 12 = true := by kernel_rfl
noncomputable def opssd : Array Oper := Held.inBody 23 Try.f8.body
def ordsd : List Nat := [0, 1, 2, 3, 4, 5, 6, 7, 8, 9, 10, 11, 12]
set_option maxRecDepth 100000 in
theorem sizsd : opssd.size = 13 := by kernel_rfl
set_option maxRecDepth 100000 in
theorem nossd : Region.noSelect opssd = true := by kernel_rfl
set_option maxRecDepth 100000 in
theorem okksd_0 : Held.okAt opssd ordsd 0 = true := by kernel_rfl
set_option maxRecDepth 100000 in
theorem okksd_1 : Held.okAt opssd ordsd 1 = true := by kernel_rfl
set_option maxRecDepth 100000 in
theorem okksd_2 : Held.okAt opssd ordsd 2 = true := by kernel_rfl
set_option maxRecDepth 100000 in
theorem okksd_3 : Held.okAt opssd ordsd 3 = true := by kernel_rfl
set_option maxRecDepth 100000 in
theorem okksd_4 : Held.okAt opssd ordsd 4 = true := by kernel_rfl
set_option maxRecDepth 100000 in
theorem okksd_5 : Held.okAt opssd ordsd 5 = true := by kernel_rfl
set_option maxRecDepth 100000 in
theorem okksd_6 : Held.okAt opssd ordsd 6 = true := by kernel_rfl
set_option maxRecDepth 100000 in
theorem okksd_7 : Held.okAt opssd ordsd 7 = true := by kernel_rfl
set_option maxRecDepth 100000 in
theorem okksd_8 : Held.okAt opssd ordsd 8 = true := by kernel_rfl
set_option maxRecDepth 100000 in
theorem okksd_9 : Held.okAt opssd ordsd 9 = true := by kernel_rfl
set_option maxRecDepth 100000 in
theorem okksd_10 : Held.okAt opssd ordsd 10 = true := by kernel_rfl
set_option maxRecDepth 100000 in
theorem okksd_11 : Held.okAt opssd ordsd 11 = true := by kernel_rfl
set_option maxRecDepth 100000 in
theorem okksd_12 : Held.okAt opssd ordsd 12 = true := by kernel_rfl
noncomputable def opsse : Array Oper := Held.inBody 23 Try.f8.body
def ordse : List Nat := [0, 1, 2, 3, 4, 5, 6, 7, 8, 9, 10, 11, 12]
set_option maxRecDepth 100000 in
theorem sizse : opsse.size = 13 := by kernel_rfl
set_option maxRecDepth 100000 in
theorem nosse : Region.noSelect opsse = true := by kernel_rfl
set_option maxRecDepth 100000 in
theorem okkse_0 : Held.okAt opsse ordse 0 = true := by kernel_rfl
set_option maxRecDepth 100000 in
theorem okkse_1 : Held.okAt opsse ordse 1 = true := by kernel_rfl
set_option maxRecDepth 100000 in
theorem okkse_2 : Held.okAt opsse ordse 2 = true := by kernel_rfl
set_option maxRecDepth 100000 in
theorem okkse_3 : Held.okAt opsse ordse 3 = true := by kernel_rfl
set_option maxRecDepth 100000 in
theorem okkse_4 : Held.okAt opsse ordse 4 = true := by kernel_rfl
set_option maxRecDepth 100000 in
theorem okkse_5 : Held.okAt opsse ordse 5 = true := by kernel_rfl
set_option maxRecDepth 100000 in
theorem okkse_6 : Held.okAt opsse ordse 6 = true := by kernel_rfl
set_option maxRecDepth 100000 in
theorem okkse_7 : Held.okAt opsse ordse 7 = true := by kernel_rfl
set_option maxRecDepth 100000 in
theorem okkse_8 : Held.okAt opsse ordse 8 = true := by kernel_rfl
set_option maxRecDepth 100000 in
theorem okkse_9 : Held.okAt opsse ordse 9 = true := by kernel_rfl
set_option maxRecDepth 100000 in
theorem okkse_10 : Held.okAt opsse ordse 10 = true := by kernel_rfl
set_option maxRecDepth 100000 in
theorem okkse_11 : Held.okAt opsse ordse 11 = true := by kernel_rfl
set_option maxRecDepth 100000 in
theorem okkse_12 : Held.okAt opsse ordse 12 = true := by kernel_rfl
noncomputable def opssf : Array Oper := Held.inBody 24 Try.f8.body
def ordsf : List Nat := [0, 1, 2, 3, 4, 5, 6, 7, 8, 9, 10, 11, 13, 14, 15, 16, 17, 18, 19, 20, 21, 12, 22, 23, 24, 25]
set_option maxRecDepth 100000 in
theorem sizsf : opssf.size = 26 := by kernel_rfl
set_option maxRecDepth 100000 in
theorem nossf : Region.noSelect opssf = true := by kernel_rfl
set_option maxRecDepth 100000 in
theorem okksf_0 : Held.okAt opssf ordsf 0 = true := by kernel_rfl
set_option maxRecDepth 100000 in
theorem okksf_1 : Held.okAt opssf ordsf 1 = true := by kernel_rfl
set_option maxRecDepth 100000 in
theorem okksf_2 : Held.okAt opssf ordsf 2 = true := by kernel_rfl
set_option maxRecDepth 100000 in
theorem okksf_3 : Held.okAt opssf ordsf 3 = true := by kernel_rfl
set_option maxRecDepth 100000 in
theorem okksf_4 : Held.okAt opssf ordsf 4 = true := by kernel_rfl
set_option maxRecDepth 100000 in
theorem okksf_5 : Held.okAt opssf ordsf 5 = true := by kernel_rfl
set_option maxRecDepth 100000 in
theorem okksf_6 : Held.okAt opssf ordsf 6 = true := by kernel_rfl
set_option maxRecDepth 100000 in
theorem okksf_7 : Held.okAt opssf ordsf 7 = true := by kernel_rfl
set_option maxRecDepth 100000 in
theorem okksf_8 : Held.okAt opssf ordsf 8 = true := by kernel_rfl
set_option maxRecDepth 100000 in
theorem okksf_9 : Held.okAt opssf ordsf 9 = true := by kernel_rfl
set_option maxRecDepth 100000 in
theorem okksf_10 : Held.okAt opssf ordsf 10 = true := by kernel_rfl
set_option maxRecDepth 100000 in
theorem okksf_11 : Held.okAt opssf ordsf 11 = true := by kernel_rfl
set_option maxRecDepth 100000 in
theorem okksf_12 : Held.okAt opssf ordsf 12 = true := by kernel_rfl
set_option maxRecDepth 100000 in
theorem okksf_13 : Held.okAt opssf ordsf 13 = true := by kernel_rfl
set_option maxRecDepth 100000 in
theorem okksf_14 : Held.okAt opssf ordsf 14 = true := by kernel_rfl
set_option maxRecDepth 100000 in
theorem okksf_15 : Held.okAt opssf ordsf 15 = true := by kernel_rfl
set_option maxRecDepth 100000 in
theorem okksf_16 : Held.okAt opssf ordsf 16 = true := by kernel_rfl
set_option maxRecDepth 100000 in
theorem okksf_17 : Held.okAt opssf ordsf 17 = true := by kernel_rfl
set_option maxRecDepth 100000 in
theorem okksf_18 : Held.okAt opssf ordsf 18 = true := by kernel_rfl
set_option maxRecDepth 100000 in
theorem okksf_19 : Held.okAt opssf ordsf 19 = true := by kernel_rfl
set_option maxRecDepth 100000 in
theorem okksf_20 : Held.okAt opssf ordsf 20 = true := by kernel_rfl
set_option maxRecDepth 100000 in
theorem okksf_24 : Held.okAt opssf ordsf 24 = true := by kernel_rfl
set_option maxRecDepth 100000 in
theorem okksf_25 : Held.okAt opssf ordsf 25 = true := by kernel_rfl
set_option maxRecDepth 100000 in
theorem rdysf_21 : Region.ready .any opssf (Held.lst 26 ordsf 21) = [12] := by kernel_rfl
set_option maxRecDepth 100000 in
theorem rdysf_22 : Region.ready .any opssf (Held.lst 26 ordsf 22) = [22] := by kernel_rfl
set_option maxRecDepth 100000 in
theorem rdysf_23 : Region.ready .any opssf (Held.lst 26 ordsf 23) = [23] := by kernel_rfl
set_option maxHeartbeats 32000000 in
set_option maxRecDepth 100000 in
theorem sides8_walk (n c : Nat) (A : Option Addr) (l : List En) (w : World) (hl : Row enEn 7 w (.slice A n c) l) (hz : SzE l) :
    Calls Try.prog 8 #[.slice A n c] w fun e w' => e = .returned (.bool true) ∧ Below w.heap.size w w' := by
  have EA := Lib.hid hl.len_eq
  have D := Below.refl w.heap.size w
  cases h : fewRo l with
  | false =>
    have H := Lib.hid h
    clear h
    go_enter Try.func8, Try.ntmps8
    go_wp2_with fail
    with_reducible refine (few8_is n c A l _ (hl.below D) false hz H).mono ?_
    rintro e w1 ⟨rfl, b1⟩
    replace D := below_call D b1
    clear b1
    go_wp2_with fail
    with_reducible refine (live08 _).mono ?_
    rintro e w2 ⟨rfl, b2⟩
    replace D := below_call D b2
    clear b2
    go_wp2
    go_ret
    exact ⟨rfl, D⟩
  | true =>
  obtain ⟨hs, h80⟩ := fewRo_sz h
  have hn : n ≤ 100000 := by have := EA.out; omega
  have hn8 : n ≤ 80 := by have := EA.out; omega
  have H := Lib.hid h
  clear h
  cases h : mayRo l with
  | false =>
    have HM := Lib.hid h
    clear h
    go_enter Try.func8, Try.ntmps8
    go_wp2_with fail
    with_reducible refine (few8_is n c A l _ (hl.below D) true hz H).mono ?_
    rintro e w1 ⟨rfl, b1⟩
    replace D := below_call D b1
    clear b1
    go_wp2_with fail
    with_reducible refine (refMay8_is n c A l _ (hl.below D) false hs hn HM).mono ?_
    rintro e w2 ⟨rfl, b2⟩
    replace D := below_call D b2
    clear b2
    go_wp2_with fail
    with_reducible refine (live08 _).mono ?_
    rintro e w3 ⟨rfl, b3⟩
    replace D := below_call D b3
    clear b3
    go_wp2
    go_ret
    exact ⟨rfl, D⟩
  | true =>
  have HM := Lib.hid h
  obtain ⟨us, hus⟩ : ∃ us, ownersRo l = us := ⟨_, rfl⟩
  have hall : sumO l us = n := by rw [← hus, EA.out]; exact owners_sum l
  have HLE : Hid (∀ i, sumO l (us.take i) ≤ 80) := fun i => by have := sumO_le l us i; omega
  have HALL := Lib.hid hall
  have HUS := Lib.hid hus
  have HBK : Hid (∀ o c, c ∈ ofRo l o → o ∈ ofRo l c ∧ fitI (getRo l o c) (getRo l c o) = true) := fun o c hc => of_back h hc
  clear h h80 hus hall
  go_enter Try.func8, Try.ntmps8
  go_wp2_with fail
  with_reducible refine (few8_is n c A l _ (hl.below D) true hz H).mono ?_
  rintro e w1 ⟨rfl, b1⟩
  replace D := below_call D b1
  clear b1
  go_wp2_with fail
  with_reducible refine (refMay8_is n c A l _ (hl.below D) true hs hn HM).mono ?_
  rintro e w2 ⟨rfl, b2⟩
  replace D := below_call D b2
  clear b2
  go_wp2
  go_loopw [3, 4] (fun v3 v4 wr => ∃ (i : Nat) (ys : List ByteArray), v4 = .int .i64 i ∧ i ≤ n ∧ ys.length ≤ i ∧ Hid ((l.take i).map En.o = ys) ∧ Own enS 1 9 wr w.heap.size v3 ys ∧ Below w.heap.size w wr) (fun _ v4 _ => (n - intOf v4).toNat)
  case atStart => exact ⟨0, [], rfl, Nat.zero_le _, Nat.le_refl _, rfl, Own.nil _ _ _ _ _, D⟩
  case round =>
    obtain ⟨i, ys, rfl, hi, hys, HT, hO, hB⟩ := hrel
    by_cases hlt : i < n
    · have hil : i < l.length := by have := EA.out; omega
      obtain ⟨⟨a_, b_, c_, d_, e_, f_, g_⟩, he⟩ : ∃ e, l[i] = e := ⟨_, rfl⟩
      obtain ⟨ad, rfl, c0, c1, c2, c3, c4, c5, c6⟩ := rowEn (hl.below hB) i hil a_ b_ c_ d_ e_ f_ g_ he
      have HT2 : Hid ((l.take (i + 1)).map En.o = ys ++ [a_]) := by
        show _ = _
        rw [List.take_succ_eq_append_getElem hil, List.map_append, HT.out, he]
        rfl
      clear he HT
      go_wp2_with (at_builtin; refine Own.append (w0 := w) w.heap.size rfl (.tmp 27) (.tmp 33) 29 9 (.string ⟨#[]⟩) 1 16 rfl Try.underlying29 info_str rfl (by decide) _ ys a_ [.string a_] rfl rfl rfl rfl (enS_one _) hO hB hB.size (by omega) (by omega) ?_; intro v2 w2 hO2 hB2 _ _)
      exact ⟨⟨i + 1, ys ++ [a_], by go_num, by omega, by rw [List.length_append]; simp only [List.length_cons, List.length_nil]; omega, HT2, hO2, hB2⟩, by simp [intOf]; omega⟩
    · have HF : Hid (mergeS ys [] = us) := by
        show _ = _
        have := HT.out
        rw [List.take_of_length_le (by have := EA.out; omega)] at this
        rw [← this]
        exact HUS.out
      have hul : us.length ≤ 80 := by
        have h1 := mergeS_len ys []
        rw [HF.out] at h1
        simp only [List.length_nil] at h1
        omega
      obtain ⟨A2, c2, rfl, _⟩ := hO.slice
      clear D
      have D := hB
      clear hB
      go_wp2_with fail
      refine (refMerge_calls ys.length c2 0 0 A2 none ys [] _ hO.row (Row.nil _ _ _) (by omega) (by omega)).mono ?_
      rintro e w4 ⟨v4, rfl, r4, b4⟩
      replace D := below_call D b4
      rw [HF.out] at r4
      obtain ⟨A4, c4, rfl⟩ := r4.form8 _ rfl
      clear b4 HF HT hO hys hi hlt
      go_wp2
      go_loopw [5, 6] (fun v5 v6 wr => ∃ (i m : Nat), v6 = .int .i64 i ∧ v5 = .int .i64 m ∧ i ≤ us.length ∧ Hid (sumO l (us.take i) = m) ∧ Below w4.heap.size w4 wr) (fun _ v6 _ => (us.length - intOf v6).toNat)
      case atStart => exact ⟨0, 0, rfl, rfl, Nat.zero_le _, rfl, Below.refl _ _⟩
      case round =>
        obtain ⟨k, m, rfl, rfl, hk, HT, hB⟩ := hrel
        by_cases hlt : k < us.length
        · obtain ⟨ad, rfl, hc⟩ := (r4.below hB).get1 (f := Value.string) k hlt
          have hsn := sumO_snoc l us k hlt
          rw [HT.out] at hsn
          have hle := HLE.out (k + 1)
          obtain ⟨u, hu⟩ : ∃ u, us[k] = u := ⟨_, rfl⟩
          rw [hu] at hc hsn
          obtain ⟨os, hos⟩ : ∃ u', ofRo l u = u' := ⟨_, rfl⟩
          rw [hos] at hsn
          have hmo : m + os.length ≤ 80 := by omega
          have HSN := Lib.hid hsn
          have HO := Lib.hid hos
          have Dr := below_call D hB
          clear hu hsn hos hle HT
          go_wp2_with fail
          with_reducible refine (Of8_is n c A l _ (hl.below Dr) u os hn HO).mono ?_
          rintro e w5 ⟨v5, rfl, r5, b5⟩
          replace Dr := below_call Dr b5
          replace hB := below_call hB b5
          replace hc := cell_below b5 hc
          clear b5
          obtain ⟨A5, c5, rfl⟩ := r5.form8 _ rfl
          go_wp2
          go_loopw [8] (fun v8 wr => ∃ (j : Nat), v8 = .int .i64 j ∧ j ≤ os.length ∧ Below w5.heap.size w5 wr) (fun v8 _ => (os.length - intOf v8).toNat)
          case atStart => exact ⟨0, rfl, Nat.zero_le _, Below.refl _ _⟩
          case round =>
            obtain ⟨j, rfl, hj, hB5⟩ := hrel
            by_cases hjt : j < os.length
            · obtain ⟨ad5, rfl, hd⟩ := (r5.below hB5).get1 (f := Value.string) j hjt
              have hqm : os[j] ∈ ofRo l u := by rw [HO.out]; exact List.getElem_mem _
              obtain ⟨q, hq⟩ : ∃ u, os[j] = u := ⟨_, rfl⟩
              rw [hq] at hd hqm
              obtain ⟨hbk, hfi⟩ := HBK.out u q hqm
              obtain ⟨bs, hbs⟩ : ∃ u', ofRo l q = u' := ⟨_, rfl⟩
              have hbl : bs.length ≤ 80 := by have h1 := ofRo_le l q; have := EA.out; rw [hbs] at h1; omega
              rw [hbs] at hbk
              have HAM := Lib.hid (among_in hbk)
              have HFI := Lib.hid hfi
              have HO6 := Lib.hid hbs
              replace hc := cell_below hB5 hc
              replace hB := below_call hB hB5
              replace Dr := below_call Dr hB5
              clear hq hqm hbk hfi hbs
              go_wp2_with fail
              with_reducible refine (Of8_is n c A l _ (hl.below Dr) q bs hn HO6).mono ?_
              rintro e w6 ⟨v6, rfl, r6, b6⟩
              replace Dr := below_call Dr b6
              replace hB := below_call hB b6
              replace hB5 := below_call hB5 b6
              replace hc := cell_below b6 hc
              replace hd := cell_below b6 hd
              clear b6
              obtain ⟨A6, c6, rfl⟩ := r6.form8 _ rfl
              go_wp2
              go_loopw [10, 11] (fun v10 v11 wr => ∃ (p : Nat) (am : Bool), v11 = .int .i64 p ∧ v10 = .bool am ∧ p ≤ bs.length ∧ Hid (amongL (bs.take p) u = am) ∧ Below w6.heap.size w6 wr) (fun _ v11 _ => (bs.length - intOf v11).toNat)
              case atStart => exact ⟨0, false, rfl, rfl, Nat.zero_le _, rfl, Below.refl _ _⟩
              case round =>
                obtain ⟨p, am, rfl, rfl, hp, HT, hB6⟩ := hrel
                by_cases hpt : p < bs.length
                · obtain ⟨ad6, rfl, he⟩ := (r6.below hB6).get1 (f := Value.string) p hpt
                  replace hc := cell_below hB6 hc
                  have hsn := among_snoc bs p hpt u
                  rw [HT.out] at hsn
                  obtain ⟨z, hz⟩ : ∃ u, bs[p] = u := ⟨_, rfl⟩
                  rw [hz] at he hsn
                  have HSN2 := Lib.hid hsn
                  have x1 : (0 : Int) ≤ (p : Int) := by omega
                  have x2 : (p : Int) < (bs.length : Int) := by omega
                  have x3 : (0 : Int) ≤ (k : Int) := by omega
                  have x4 : (k : Int) < (us.length : Int) := by omega
                  clear hz hsn HT
                  cases am with
                  | true =>
                    have HT2 : Hid (amongL (bs.take (p + 1)) u = true) := by show _ = _; rw [HSN2.out, Bool.true_or]
                    replace hB6 : Below _ _ wr.drew := hB6.drew
                    go_wp2_with fail
                    refine Held.start (ops := opssc) (S := fun w' => w'.cell? (ad.add k) = some (.string u) ∧ w'.cell? (ad6.add p) = some (.string z)) ordsc 13 (by kernel_rfl) sizsc (by kernel_rfl) ⟨hc, he⟩ (fun hHeld => ?_)
                    refine Held.take (k := 0) (i := 0) (v := ?vsc0) nossc okksc_0 sizsc (by kernel_rfl) rfl (fun _ _ _ h => h) (Or.inl ⟨by kernel_rfl, ?hysc0⟩) (by assumption) ?restsc0
                    case hysc0 => (intro w hSw; (try dsimp only at hSw); go_simp; (try (first | with_reducible rfl | rw [if_neg (by omega)])))
                    try simp only [Act.put, List.getElem_toArray, List.getElem_cons_succ, List.getElem_cons_zero, List.setIfInBounds_toArray, List.set_cons_zero, List.set_cons_succ]
                    refine Held.take (k := 1) (i := 1) (v := ?vsc1) nossc okksc_1 sizsc (by kernel_rfl) rfl (fun _ _ _ h => h) (Or.inl ⟨by kernel_rfl, ?hysc1⟩) (by assumption) ?restsc1
                    case hysc1 => (intro w hSw; (try dsimp only at hSw); go_simp; (try (first | with_reducible rfl | rw [if_neg (by omega)])))
                    try simp only [Act.put, List.getElem_toArray, List.getElem_cons_succ, List.getElem_cons_zero, List.setIfInBounds_toArray, List.set_cons_zero, List.set_cons_succ]
                    refine Held.take (k := 2) (i := 2) (v := undef) nossc okksc_2 sizsc (by kernel_rfl) rfl (fun _ _ _ h => h) (Or.inr ⟨by kernel_rfl, rfl⟩) (by assumption) ?_
                    try simp only [Act.put, List.getElem_toArray, List.getElem_cons_succ, List.getElem_cons_zero, List.setIfInBounds_toArray, List.set_cons_zero, List.set_cons_succ]
                    refine Held.take (k := 3) (i := 3) (v := undef) nossc okksc_3 sizsc (by kernel_rfl) rfl (fun _ _ _ h => h) (Or.inr ⟨by kernel_rfl, rfl⟩) (by assumption) ?_
                    try simp only [Act.put, List.getElem_toArray, List.getElem_cons_succ, List.getElem_cons_zero, List.setIfInBounds_toArray, List.set_cons_zero, List.set_cons_succ]
                    refine Held.take (k := 4) (i := 4) (v := undef) nossc okksc_4 sizsc (by kernel_rfl) rfl (fun _ _ _ h => h) (Or.inr ⟨by kernel_rfl, rfl⟩) (by assumption) ?_
                    try simp only [Act.put, List.getElem_toArray, List.getElem_cons_succ, List.getElem_cons_zero, List.setIfInBounds_toArray, List.set_cons_zero, List.set_cons_succ]
                    refine Held.take (k := 5) (i := 5) (v := undef) nossc okksc_5 sizsc (by kernel_rfl) rfl (fun _ _ _ h => h) (Or.inr ⟨by kernel_rfl, rfl⟩) (by assumption) ?_
                    try simp only [Act.put, List.getElem_toArray, List.getElem_cons_succ, List.getElem_cons_zero, List.setIfInBounds_toArray, List.set_cons_zero, List.set_cons_succ]
                    refine Held.take (k := 6) (i := 6) (v := undef) nossc okksc_6 sizsc (by kernel_rfl) rfl (fun _ _ _ h => h) (Or.inr ⟨by kernel_rfl, rfl⟩) (by assumption) ?_
                    try simp only [Act.put, List.getElem_toArray, List.getElem_cons_succ, List.getElem_cons_zero, List.setIfInBounds_toArray, List.set_cons_zero, List.set_cons_succ]
                    refine Held.take (k := 7) (i := 7) (v := undef) nossc okksc_7 sizsc (by kernel_rfl) rfl (fun _ _ _ h => h) (Or.inr ⟨by kernel_rfl, rfl⟩) (by assumption) ?_
                    try simp only [Act.put, List.getElem_toArray, List.getElem_cons_succ, List.getElem_cons_zero, List.setIfInBounds_toArray, List.set_cons_zero, List.set_cons_succ]
                    refine Held.take (k := 8) (i := 8) (v := undef) nossc okksc_8 sizsc (by kernel_rfl) rfl (fun _ _ _ h => h) (Or.inr ⟨by kernel_rfl, rfl⟩) (by assumption) ?_
                    try simp only [Act.put, List.getElem_toArray, List.getElem_cons_succ, List.getElem_cons_zero, List.setIfInBounds_toArray, List.set_cons_zero, List.set_cons_succ]
                    refine Held.take (k := 9) (i := 9) (v := undef) nossc okksc_9 sizsc (by kernel_rfl) rfl (fun _ _ _ h => h) (Or.inr ⟨by kernel_rfl, rfl⟩) (by assumption) ?_
                    try simp only [Act.put, List.getElem_toArray, List.getElem_cons_succ, List.getElem_cons_zero, List.setIfInBounds_toArray, List.set_cons_zero, List.set_cons_succ]
                    refine Held.take (k := 10) (i := 10) (v := undef) nossc okksc_10 sizsc (by kernel_rfl) rfl (fun _ _ _ h => h) (Or.inr ⟨by kernel_rfl, rfl⟩) (by assumption) ?_
                    try simp only [Act.put, List.getElem_toArray, List.getElem_cons_succ, List.getElem_cons_zero, List.setIfInBounds_toArray, List.set_cons_zero, List.set_cons_succ]
                    refine Held.take (k := 11) (i := 11) (v := ?vsc11) nossc okksc_11 sizsc (by kernel_rfl) rfl (fun _ _ _ h => h) (Or.inl ⟨by kernel_rfl, ?hysc11⟩) (by assumption) ?restsc11
                    case hysc11 => (intro w hSw; (try dsimp only at hSw); go_simp; (try (first | with_reducible rfl | rw [if_neg (by omega)])))
                    try simp only [Act.put, List.getElem_toArray, List.getElem_cons_succ, List.getElem_cons_zero, List.setIfInBounds_toArray, List.set_cons_zero, List.set_cons_succ]
                    refine Held.take (k := 12) (i := 12) (v := ?vsc12) nossc okksc_12 sizsc (by kernel_rfl) rfl (fun _ _ _ h => h) (Or.inl ⟨by kernel_rfl, ?hysc12⟩) (by assumption) ?restsc12
                    case hysc12 => (intro w hSw; (try dsimp only at hSw); go_simp; (try (first | with_reducible rfl | rw [if_neg (by omega)])))
                    try simp only [Act.put, List.getElem_toArray, List.getElem_cons_succ, List.getElem_cons_zero, List.setIfInBounds_toArray, List.set_cons_zero, List.set_cons_succ]
                    refine wpAnyH_done (by kernel_rfl) ?_ _
                    clear hc he
                    go_wp2
                    exact ⟨⟨p + 1, true, by go_num, rfl, by omega, HT2, hB6⟩, by simp [intOf]; omega⟩
                  | false =>
                    by_cases hzu : z = u
                    · have e1 : (z.toList == u.toList) = true := by rw [hzu]; exact beq_self_eq_true _
                      have HT2 : Hid (amongL (bs.take (p + 1)) u = true) := by show _ = _; rw [HSN2.out, decide_eq_true hzu, Bool.or_true]
                      clear hzu
                      replace hB6 : Below _ _ wr.drew := hB6.drew
                      go_wp2_with fail
                      refine Held.start (ops := opssd) (S := fun w' => w'.cell? (ad.add k) = some (.string u) ∧ w'.cell? (ad6.add p) = some (.string z)) ordsd 13 (by kernel_rfl) sizsd (by kernel_rfl) ⟨hc, he⟩ (fun hHeld => ?_)
                      refine Held.take (k := 0) (i := 0) (v := ?vsd0) nossd okksd_0 sizsd (by kernel_rfl) rfl (fun _ _ _ h => h) (Or.inl ⟨by kernel_rfl, ?hysd0⟩) (by assumption) ?restsd0
                      case hysd0 => (intro w hSw; (try dsimp only at hSw); go_simp; (try (first | with_reducible rfl | rw [if_neg (by omega)])))
                      try simp only [Act.put, List.getElem_toArray, List.getElem_cons_succ, List.getElem_cons_zero, List.setIfInBounds_toArray, List.set_cons_zero, List.set_cons_succ]
                      refine Held.take (k := 1) (i := 1) (v := ?vsd1) nossd okksd_1 sizsd (by kernel_rfl) rfl (fun _ _ _ h => h) (Or.inl ⟨by kernel_rfl, ?hysd1⟩) (by assumption) ?restsd1
                      case hysd1 => (intro w hSw; (try dsimp only at hSw); go_simp; (try (first | with_reducible rfl | rw [if_neg (by omega)])))
                      try simp only [Act.put, List.getElem_toArray, List.getElem_cons_succ, List.getElem_cons_zero, List.setIfInBounds_toArray, List.set_cons_zero, List.set_cons_succ]
                      refine Held.take (k := 2) (i := 2) (v := ?vsd2) nossd okksd_2 sizsd (by kernel_rfl) rfl (fun _ _ _ h => h) (Or.inl ⟨by kernel_rfl, ?hysd2⟩) (by assumption) ?restsd2
                      case hysd2 => (intro w hSw; (try dsimp only at hSw); go_simp; (try (first | with_reducible rfl | rw [if_neg (by omega)])))
                      try simp only [Act.put, List.getElem_toArray, List.getElem_cons_succ, List.getElem_cons_zero, List.setIfInBounds_toArray, List.set_cons_zero, List.set_cons_succ]
                      refine Held.take (k := 3) (i := 3) (v := ?vsd3) nossd okksd_3 sizsd (by kernel_rfl) rfl (fun _ _ _ h => h) (Or.inl ⟨by kernel_rfl, ?hysd3⟩) (by assumption) ?restsd3
                      case hysd3 => (intro w hSw; (try dsimp only at hSw); go_simp; (try (first | with_reducible rfl | rw [if_neg (by omega)])))
                      try simp only [Act.put, List.getElem_toArray, List.getElem_cons_succ, List.getElem_cons_zero, List.setIfInBounds_toArray, List.set_cons_zero, List.set_cons_succ]
                      refine Held.take (k := 4) (i := 4) (v := ?vsd4) nossd okksd_4 sizsd (by kernel_rfl) rfl (fun _ _ _ h => h) (Or.inl ⟨by kernel_rfl, ?hysd4⟩) (by assumption) ?restsd4
                      case hysd4 => (intro w hSw; (try dsimp only at hSw); go_simp; (try (first | with_reducible rfl | rw [if_neg (by omega)])))
                      try simp only [Act.put, List.getElem_toArray, List.getElem_cons_succ, List.getElem_cons_zero, List.setIfInBounds_toArray, List.set_cons_zero, List.set_cons_succ]
                      refine Held.take (k := 5) (i := 5) (v := ?vsd5) nossd okksd_5 sizsd (by kernel_rfl) rfl (fun _ _ _ h => h) (Or.inl ⟨by kernel_rfl, ?hysd5⟩) (by assumption) ?restsd5
                      case hysd5 => (intro w hSw; (try dsimp only at hSw); go_simp; (try (first | with_reducible rfl | rw [if_neg (by omega)])))
                      try simp only [Act.put, List.getElem_toArray, List.getElem_cons_succ, List.getElem_cons_zero, List.setIfInBounds_toArray, List.set_cons_zero, List.set_cons_succ]
                      refine Held.take (k := 6) (i := 6) (v := ?vsd6) nossd okksd_6 sizsd (by kernel_rfl) rfl (fun _ _ _ h => h) (Or.inl ⟨by kernel_rfl, ?hysd6⟩) (by assumption) ?restsd6
                      case hysd6 => (intro w hSw; (try dsimp only at hSw); go_simp; (try (first | with_reducible rfl | rw [if_neg (by omega)])))
                      try simp only [Act.put, List.getElem_toArray, List.getElem_cons_succ, List.getElem_cons_zero, List.setIfInBounds_toArray, List.set_cons_zero, List.set_cons_succ]
                      refine Held.take (k := 7) (i := 7) (v := ?vsd7) nossd okksd_7 sizsd (by kernel_rfl) rfl (fun _ _ _ h => h) (Or.inl ⟨by kernel_rfl, ?hysd7⟩) (by assumption) ?restsd7
                      case hysd7 => (intro w hSw; (try dsimp only at hSw); go_simp; (try (first | with_reducible rfl | rw [if_neg (by omega)])))
                      try simp only [Act.put, List.getElem_toArray, List.getElem_cons_succ, List.getElem_cons_zero, List.setIfInBounds_toArray, List.set_cons_zero, List.set_cons_succ]
                      refine Held.take (k := 8) (i := 8) (v := ?vsd8) nossd okksd_8 sizsd (by kernel_rfl) rfl (fun _ _ _ h => h) (Or.inl ⟨by kernel_rfl, ?hysd8⟩) (by assumption) ?restsd8
                      case hysd8 => (intro w hSw; (try dsimp only at hSw); go_simp; (try (first | with_reducible rfl | rw [if_neg (by omega)])))
                      try simp only [Act.put, List.getElem_toArray, List.getElem_cons_succ, List.getElem_cons_zero, List.setIfInBounds_toArray, List.set_cons_zero, List.set_cons_succ]
                      refine Held.take (k := 9) (i := 9) (v := ?vsd9) nossd okksd_9 sizsd (by kernel_rfl) rfl (fun _ _ _ h => h) (Or.inl ⟨by kernel_rfl, ?hysd9⟩) (by assumption) ?restsd9
                      case hysd9 => (intro w hSw; (try dsimp only at hSw); go_simp; (try (first | with_reducible rfl | rw [if_neg (by omega)])))
                      try simp only [Act.put, List.getElem_toArray, List.getElem_cons_succ, List.getElem_cons_zero, List.setIfInBounds_toArray, List.set_cons_zero, List.set_cons_succ]
                      refine Held.take (k := 10) (i := 10) (v := ?vsd10) nossd okksd_10 sizsd (by kernel_rfl) rfl (fun _ _ _ h => h) (Or.inl ⟨by kernel_rfl, ?hysd10⟩) (by assumption) ?restsd10
                      case hysd10 => (intro w hSw; (try dsimp only at hSw); go_simp; (try (first | with_reducible rfl | rw [if_neg (by omega)])))
                      try simp only [Act.put, List.getElem_toArray, List.getElem_cons_succ, List.getElem_cons_zero, List.setIfInBounds_toArray, List.set_cons_zero, List.set_cons_succ]
                      refine Held.take (k := 11) (i := 11) (v := ?vsd11) nossd okksd_11 sizsd (by kernel_rfl) rfl (fun _ _ _ h => h) (Or.inl ⟨by kernel_rfl, ?hysd11⟩) (by assumption) ?restsd11
                      case hysd11 => (intro w hSw; (try dsimp only at hSw); go_simp; (try (first | with_reducible rfl | rw [if_neg (by omega)])))
                      try simp only [Act.put, List.getElem_toArray, List.getElem_cons_succ, List.getElem_cons_zero, List.setIfInBounds_toArray, List.set_cons_zero, List.set_cons_succ]
                      refine Held.take (k := 12) (i := 12) (v := ?vsd12) nossd okksd_12 sizsd (by kernel_rfl) rfl (fun _ _ _ h => h) (Or.inl ⟨by kernel_rfl, ?hysd12⟩) (by assumption) ?restsd12
                      case hysd12 => (intro w hSw; (try dsimp only at hSw); go_simp; (try (first | with_reducible rfl | rw [if_neg (by omega)])))
                      try simp only [Act.put, List.getElem_toArray, List.getElem_cons_succ, List.getElem_cons_zero, List.setIfInBounds_toArray, List.set_cons_zero, List.set_cons_succ]
                      refine wpAnyH_done (by kernel_rfl) ?_ _
                      clear hc he
                      go_wp2
                      exact ⟨⟨p + 1, true, by go_num, rfl, by omega, HT2, hB6⟩, by simp [intOf]; omega⟩
                    · have e1 : (z.toList == u.toList) = false := by simpa [toList_inj'] using hzu
                      have HT2 : Hid (amongL (bs.take (p + 1)) u = false) := by show _ = _; rw [HSN2.out, decide_eq_false hzu, Bool.or_false]
                      clear hzu
                      replace hB6 : Below _ _ wr.drew := hB6.drew
                      go_wp2_with fail
                      refine Held.start (ops := opsse) (S := fun w' => w'.cell? (ad.add k) = some (.string u) ∧ w'.cell? (ad6.add p) = some (.string z)) ordse 13 (by kernel_rfl) sizse (by kernel_rfl) ⟨hc, he⟩ (fun hHeld => ?_)
                      refine Held.take (k := 0) (i := 0) (v := ?vse0) nosse okkse_0 sizse (by kernel_rfl) rfl (fun _ _ _ h => h) (Or.inl ⟨by kernel_rfl, ?hyse0⟩) (by assumption) ?restse0
                      case hyse0 => (intro w hSw; (try dsimp only at hSw); go_simp; (try (first | with_reducible rfl | rw [if_neg (by omega)])))
                      try simp only [Act.put, List.getElem_toArray, List.getElem_cons_succ, List.getElem_cons_zero, List.setIfInBounds_toArray, List.set_cons_zero, List.set_cons_succ]
                      refine Held.take (k := 1) (i := 1) (v := ?vse1) nosse okkse_1 sizse (by kernel_rfl) rfl (fun _ _ _ h => h) (Or.inl ⟨by kernel_rfl, ?hyse1⟩) (by assumption) ?restse1
                      case hyse1 => (intro w hSw; (try dsimp only at hSw); go_simp; (try (first | with_reducible rfl | rw [if_neg (by omega)])))
                      try simp only [Act.put, List.getElem_toArray, List.getElem_cons_succ, List.getElem_cons_zero, List.setIfInBounds_toArray, List.set_cons_zero, List.set_cons_succ]
                      refine Held.take (k := 2) (i := 2) (v := ?vse2) nosse okkse_2 sizse (by kernel_rfl) rfl (fun _ _ _ h => h) (Or.inl ⟨by kernel_rfl, ?hyse2⟩) (by assumption) ?restse2
                      case hyse2 => (intro w hSw; (try dsimp only at hSw); go_simp; (try (first | with_reducible rfl | rw [if_neg (by omega)])))
                      try simp only [Act.put, List.getElem_toArray, List.getElem_cons_succ, List.getElem_cons_zero, List.setIfInBounds_toArray, List.set_cons_zero, List.set_cons_succ]
                      refine Held.take (k := 3) (i := 3) (v := ?vse3) nosse okkse_3 sizse (by kernel_rfl) rfl (fun _ _ _ h => h) (Or.inl ⟨by kernel_rfl, ?hyse3⟩) (by assumption) ?restse3
                      case hyse3 => (intro w hSw; (try dsimp only at hSw); go_simp; (try (first | with_reducible rfl | rw [if_neg (by omega)])))
                      try simp only [Act.put, List.getElem_toArray, List.getElem_cons_succ, List.getElem_cons_zero, List.setIfInBounds_toArray, List.set_cons_zero, List.set_cons_succ]
                      refine Held.take (k := 4) (i := 4) (v := ?vse4) nosse okkse_4 sizse (by kernel_rfl) rfl (fun _ _ _ h => h) (Or.inl ⟨by kernel_rfl, ?hyse4⟩) (by assumption) ?restse4
                      case hyse4 => (intro w hSw; (try dsimp only at hSw); go_simp; (try (first | with_reducible rfl | rw [if_neg (by omega)])))
                      try simp only [Act.put, List.getElem_toArray, List.getElem_cons_succ, List.getElem_cons_zero, List.setIfInBounds_toArray, List.set_cons_zero, List.set_cons_succ]
                      refine Held.take (k := 5) (i := 5) (v := ?vse5) nosse okkse_5 sizse (by kernel_rfl) rfl (fun _ _ _ h => h) (Or.inl ⟨by kernel_rfl, ?hyse5⟩) (by assumption) ?restse5
                      case hyse5 => (intro w hSw; (try dsimp only at hSw); go_simp; (try (first | with_reducible rfl | rw [if_neg (by omega)])))
                      try simp only [Act.put, List.getElem_toArray, List.getElem_cons_succ, List.getElem_cons_zero, List.setIfInBounds_toArray, List.set_cons_zero, List.set_cons_succ]
                      refine Held.take (k := 6) (i := 6) (v := ?vse6) nosse okkse_6 sizse (by kernel_rfl) rfl (fun _ _ _ h => h) (Or.inl ⟨by kernel_rfl, ?hyse6⟩) (by assumption) ?restse6
                      case hyse6 => (intro w hSw; (try dsimp only at hSw); go_simp; (try (first | with_reducible rfl | rw [if_neg (by omega)])))
                      try simp only [Act.put, List.getElem_toArray, List.getElem_cons_succ, List.getElem_cons_zero, List.setIfInBounds_toArray, List.set_cons_zero, List.set_cons_succ]
                      refine Held.take (k := 7) (i := 7) (v := ?vse7) nosse okkse_7 sizse (by kernel_rfl) rfl (fun _ _ _ h => h) (Or.inl ⟨by kernel_rfl, ?hyse7⟩) (by assumption) ?restse7
                      case hyse7 => (intro w hSw; (try dsimp only at hSw); go_simp; (try (first | with_reducible rfl | rw [if_neg (by omega)])))
                      try simp only [Act.put, List.getElem_toArray, List.getElem_cons_succ, List.getElem_cons_zero, List.setIfInBounds_toArray, List.set_cons_zero, List.set_cons_succ]
                      refine Held.take (k := 8) (i := 8) (v := ?vse8) nosse okkse_8 sizse (by kernel_rfl) rfl (fun _ _ _ h => h) (Or.inl ⟨by kernel_rfl, ?hyse8⟩) (by assumption) ?restse8
                      case hyse8 => (intro w hSw; (try dsimp only at hSw); go_simp; (try (first | with_reducible rfl | rw [if_neg (by omega)])))
                      try simp only [Act.put, List.getElem_toArray, List.getElem_cons_succ, List.getElem_cons_zero, List.setIfInBounds_toArray, List.set_cons_zero, List.set_cons_succ]
                      refine Held.take (k := 9) (i := 9) (v := ?vse9) nosse okkse_9 sizse (by kernel_rfl) rfl (fun _ _ _ h => h) (Or.inl ⟨by kernel_rfl, ?hyse9⟩) (by assumption) ?restse9
                      case hyse9 => (intro w hSw; (try dsimp only at hSw); go_simp; (try (first | with_reducible rfl | rw [if_neg (by omega)])))
                      try simp only [Act.put, List.getElem_toArray, List.getElem_cons_succ, List.getElem_cons_zero, List.setIfInBounds_toArray, List.set_cons_zero, List.set_cons_succ]
                      refine Held.take (k := 10) (i := 10) (v := ?vse10) nosse okkse_10 sizse (by kernel_rfl) rfl (fun _ _ _ h => h) (Or.inl ⟨by kernel_rfl, ?hyse10⟩) (by assumption) ?restse10
                      case hyse10 => (intro w hSw; (try dsimp only at hSw); go_simp; (try (first | with_reducible rfl | rw [if_neg (by omega)])))
                      try simp only [Act.put, List.getElem_toArray, List.getElem_cons_succ, List.getElem_cons_zero, List.setIfInBounds_toArray, List.set_cons_zero, List.set_cons_succ]
                      refine Held.take (k := 11) (i := 11) (v := ?vse11) nosse okkse_11 sizse (by kernel_rfl) rfl (fun _ _ _ h => h) (Or.inl ⟨by kernel_rfl, ?hyse11⟩) (by assumption) ?restse11
                      case hyse11 => (intro w hSw; (try dsimp only at hSw); go_simp; (try (first | with_reducible rfl | rw [if_neg (by omega)])))
                      try simp only [Act.put, List.getElem_toArray, List.getElem_cons_succ, List.getElem_cons_zero, List.setIfInBounds_toArray, List.set_cons_zero, List.set_cons_succ]
                      refine Held.take (k := 12) (i := 12) (v := ?vse12) nosse okkse_12 sizse (by kernel_rfl) rfl (fun _ _ _ h => h) (Or.inl ⟨by kernel_rfl, ?hyse12⟩) (by assumption) ?restse12
                      case hyse12 => (intro w hSw; (try dsimp only at hSw); go_simp; (try (first | with_reducible rfl | rw [if_neg (by omega)])))
                      try simp only [Act.put, List.getElem_toArray, List.getElem_cons_succ, List.getElem_cons_zero, List.setIfInBounds_toArray, List.set_cons_zero, List.set_cons_succ]
                      refine wpAnyH_done (by kernel_rfl) ?_ _
                      clear hc he
                      go_wp2
                      exact ⟨⟨p + 1, false, by go_num, rfl, by omega, HT2, hB6⟩, by simp [intOf]; omega⟩
                · have hpl : p = bs.length := by omega
                  subst hpl
                  have ham : am = true := by
                    have := HT.out
                    rw [List.take_of_length_le (Nat.le_refl _), HAM.out] at this
                    exact this.symm
                  subst ham
                  replace hc := cell_below hB6 hc
                  replace hd := cell_below hB6 hd
                  replace hB5 := below_call hB5 hB6
                  replace Dr := below_call Dr hB6
                  obtain ⟨x, hx⟩ : ∃ x, getRo l u q = x := ⟨_, rfl⟩
                  obtain ⟨y, hy⟩ : ∃ x, getRo l q u = x := ⟨_, rfl⟩
                  have hfi := HFI.out
                  rw [hx, hy] at hfi
                  obtain ⟨xa, xb, xc, xd, xe⟩ := x
                  obtain ⟨ya, yb, yc, yd, ye⟩ := y
                  have HX := Lib.hid hx
                  have HY := Lib.hid hy
                  have HFF := Lib.hid hfi
                  have x1 : (0 : Int) ≤ (j : Int) := by omega
                  have x2 : (j : Int) < (os.length : Int) := by omega
                  have x3 : (0 : Int) ≤ (k : Int) := by omega
                  have x4 : (k : Int) < (us.length : Int) := by omega
                  clear hx hy hfi HT hB6 r6 hp hpt HAM HFI
                  replace Dr := Dr.drew
                  replace hB5 : Below _ _ wr.drew := hB5.drew
                  go_wp2_with fail
                  refine Held.start (ops := opssf) (S := fun w' => w'.cell? (ad.add k) = some (.string u) ∧ w'.cell? (ad5.add j) = some (.string q)) ordsf 26 (by kernel_rfl) sizsf (by kernel_rfl) ⟨hc, hd⟩ (fun hHeld => ?_)
                  refine Held.take (k := 0) (i := 0) (v := ?vsf0) nossf okksf_0 sizsf (by kernel_rfl) rfl (fun _ _ _ h => h) (Or.inl ⟨by kernel_rfl, ?hysf0⟩) (by assumption) ?restsf0
                  case hysf0 => (intro w hSw; (try dsimp only at hSw); go_simp; (try (first | with_reducible rfl | rw [if_neg (by omega)])))
                  try simp only [Act.put, List.getElem_toArray, List.getElem_cons_succ, List.getElem_cons_zero, List.setIfInBounds_toArray, List.set_cons_zero, List.set_cons_succ]
                  refine Held.take (k := 1) (i := 1) (v := ?vsf1) nossf okksf_1 sizsf (by kernel_rfl) rfl (fun _ _ _ h => h) (Or.inl ⟨by kernel_rfl, ?hysf1⟩) (by assumption) ?restsf1
                  case hysf1 => (intro w hSw; (try dsimp only at hSw); go_simp; (try (first | with_reducible rfl | rw [if_neg (by omega)])))
                  try simp only [Act.put, List.getElem_toArray, List.getElem_cons_succ, List.getElem_cons_zero, List.setIfInBounds_toArray, List.set_cons_zero, List.set_cons_succ]
                  refine Held.take (k := 2) (i := 2) (v := ?vsf2) nossf okksf_2 sizsf (by kernel_rfl) rfl (fun _ _ _ h => h) (Or.inl ⟨by kernel_rfl, ?hysf2⟩) (by assumption) ?restsf2
                  case hysf2 => (intro w hSw; (try dsimp only at hSw); go_simp; (try (first | with_reducible rfl | rw [if_neg (by omega)])))
                  try simp only [Act.put, List.getElem_toArray, List.getElem_cons_succ, List.getElem_cons_zero, List.setIfInBounds_toArray, List.set_cons_zero, List.set_cons_succ]
                  refine Held.take (k := 3) (i := 3) (v := ?vsf3) nossf okksf_3 sizsf (by kernel_rfl) rfl (fun _ _ _ h => h) (Or.inl ⟨by kernel_rfl, ?hysf3⟩) (by assumption) ?restsf3
                  case hysf3 => (intro w hSw; (try dsimp only at hSw); go_simp; (try (first | with_reducible rfl | rw [if_neg (by omega)])))
                  try simp only [Act.put, List.getElem_toArray, List.getElem_cons_succ, List.getElem_cons_zero, List.setIfInBounds_toArray, List.set_cons_zero, List.set_cons_succ]
                  refine Held.take (k := 4) (i := 4) (v := ?vsf4) nossf okksf_4 sizsf (by kernel_rfl) rfl (fun _ _ _ h => h) (Or.inl ⟨by kernel_rfl, ?hysf4⟩) (by assumption) ?restsf4
                  case hysf4 => (intro w hSw; (try dsimp only at hSw); go_simp; (try (first | with_reducible rfl | rw [if_neg (by omega)])))
                  try simp only [Act.put, List.getElem_toArray, List.getElem_cons_succ, List.getElem_cons_zero, List.setIfInBounds_toArray, List.set_cons_zero, List.set_cons_succ]
                  refine Held.take (k := 5) (i := 5) (v := ?vsf5) nossf okksf_5 sizsf (by kernel_rfl) rfl (fun _ _ _ h => h) (Or.inl ⟨by kernel_rfl, ?hysf5⟩) (by assumption) ?restsf5
                  case hysf5 => (intro w hSw; (try dsimp only at hSw); go_simp; (try (first | with_reducible rfl | rw [if_neg (by omega)])))
                  try simp only [Act.put, List.getElem_toArray, List.getElem_cons_succ, List.getElem_cons_zero, List.setIfInBounds_toArray, List.set_cons_zero, List.set_cons_succ]
                  refine Held.take (k := 6) (i := 6) (v := ?vsf6) nossf okksf_6 sizsf (by kernel_rfl) rfl (fun _ _ _ h => h) (Or.inl ⟨by kernel_rfl, ?hysf6⟩) (by assumption) ?restsf6
                  case hysf6 => (intro w hSw; (try dsimp only at hSw); go_simp; (try (first | with_reducible rfl | rw [if_neg (by omega)])))
                  try simp only [Act.put, List.getElem_toArray, List.getElem_cons_succ, List.getElem_cons_zero, List.setIfInBounds_toArray, List.set_cons_zero, List.set_cons_succ]
                  refine Held.take (k := 7) (i := 7) (v := ?vsf7) nossf okksf_7 sizsf (by kernel_rfl) rfl (fun _ _ _ h => h) (Or.inl ⟨by kernel_rfl, ?hysf7⟩) (by assumption) ?restsf7
                  case hysf7 => (intro w hSw; (try dsimp only at hSw); go_simp; (try (first | with_reducible rfl | rw [if_neg (by omega)])))
                  try simp only [Act.put, List.getElem_toArray, List.getElem_cons_succ, List.getElem_cons_zero, List.setIfInBounds_toArray, List.set_cons_zero, List.set_cons_succ]
                  refine Held.take (k := 8) (i := 8) (v := ?vsf8) nossf okksf_8 sizsf (by kernel_rfl) rfl (fun _ _ _ h => h) (Or.inl ⟨by kernel_rfl, ?hysf8⟩) (by assumption) ?restsf8
                  case hysf8 => (intro w hSw; (try dsimp only at hSw); go_simp; (try (first | with_reducible rfl | rw [if_neg (by omega)])))
                  try simp only [Act.put, List.getElem_toArray, List.getElem_cons_succ, List.getElem_cons_zero, List.setIfInBounds_toArray, List.set_cons_zero, List.set_cons_succ]
                  refine Held.take (k := 9) (i := 9) (v := ?vsf9) nossf okksf_9 sizsf (by kernel_rfl) rfl (fun _ _ _ h => h) (Or.inl ⟨by kernel_rfl, ?hysf9⟩) (by assumption) ?restsf9
                  case hysf9 => (intro w hSw; (try dsimp only at hSw); go_simp; (try (first | with_reducible rfl | rw [if_neg (by omega)])))
                  try simp only [Act.put, List.getElem_toArray, List.getElem_cons_succ, List.getElem_cons_zero, List.setIfInBounds_toArray, List.set_cons_zero, List.set_cons_succ]
                  refine Held.take (k := 10) (i := 10) (v := ?vsf10) nossf okksf_10 sizsf (by kernel_rfl) rfl (fun _ _ _ h => h) (Or.inl ⟨by kernel_rfl, ?hysf10⟩) (by assumption) ?restsf10
                  case hysf10 => (intro w hSw; (try dsimp only at hSw); go_simp; (try (first | with_reducible rfl | rw [if_neg (by omega)])))
                  try simp only [Act.put, List.getElem_toArray, List.getElem_cons_succ, List.getElem_cons_zero, List.setIfInBounds_toArray, List.set_cons_zero, List.set_cons_succ]
                  refine Held.take (k := 11) (i := 11) (v := ?vsf11) nossf okksf_11 sizsf (by kernel_rfl) rfl (fun _ _ _ h => h) (Or.inl ⟨by kernel_rfl, ?hysf11⟩) (by assumption) ?restsf11
                  case hysf11 => (intro w hSw; (try dsimp only at hSw); go_simp; (try (first | with_reducible rfl | rw [if_neg (by omega)])))
                  try simp only [Act.put, List.getElem_toArray, List.getElem_cons_succ, List.getElem_cons_zero, List.setIfInBounds_toArray, List.set_cons_zero, List.set_cons_succ]
                  refine Held.take (k := 12) (i := 13) (v := ?vsf12) nossf okksf_12 sizsf (by kernel_rfl) rfl (fun _ _ _ h => h) (Or.inl ⟨by kernel_rfl, ?hysf12⟩) (by assumption) ?restsf12
                  case hysf12 => (intro w hSw; (try dsimp only at hSw); go_simp; (try (first | with_reducible rfl | rw [if_neg (by omega)])))
                  try simp only [Act.put, List.getElem_toArray, List.getElem_cons_succ, List.getElem_cons_zero, List.setIfInBounds_toArray, List.set_cons_zero, List.set_cons_succ]
                  refine Held.take (k := 13) (i := 14) (v := ?vsf13) nossf okksf_13 sizsf (by kernel_rfl) rfl (fun _ _ _ h => h) (Or.inl ⟨by kernel_rfl, ?hysf13⟩) (by assumption) ?restsf13
                  case hysf13 => (intro w hSw; (try dsimp only at hSw); go_simp; (try (first | with_reducible rfl | rw [if_neg (by omega)])))
                  try simp only [Act.put, List.getElem_toArray, List.getElem_cons_succ, List.getElem_cons_zero, List.setIfInBounds_toArray, List.set_cons_zero, List.set_cons_succ]
                  refine Held.take (k := 14) (i := 15) (v := ?vsf14) nossf okksf_14 sizsf (by kernel_rfl) rfl (fun _ _ _ h => h) (Or.inl ⟨by kernel_rfl, ?hysf14⟩) (by assumption) ?restsf14
                  case hysf14 => (intro w hSw; (try dsimp only at hSw); go_simp; (try (first | with_reducible rfl | rw [if_neg (by omega)])))
                  try simp only [Act.put, List.getElem_toArray, List.getElem_cons_succ, List.getElem_cons_zero, List.setIfInBounds_toArray, List.set_cons_zero, List.set_cons_succ]
                  refine Held.take (k := 15) (i := 16) (v := ?vsf15) nossf okksf_15 sizsf (by kernel_rfl) rfl (fun _ _ _ h => h) (Or.inl ⟨by kernel_rfl, ?hysf15⟩) (by assumption) ?restsf15
                  case hysf15 => (intro w hSw; (try dsimp only at hSw); go_simp; (try (first | with_reducible rfl | rw [if_neg (by omega)])))
                  try simp only [Act.put, List.getElem_toArray, List.getElem_cons_succ, List.getElem_cons_zero, List.setIfInBounds_toArray, List.set_cons_zero, List.set_cons_succ]
                  refine Held.take (k := 16) (i := 17) (v := ?vsf16) nossf okksf_16 sizsf (by kernel_rfl) rfl (fun _ _ _ h => h) (Or.inl ⟨by kernel_rfl, ?hysf16⟩) (by assumption) ?restsf16
                  case hysf16 => (intro w hSw; (try dsimp only at hSw); go_simp; (try (first | with_reducible rfl | rw [if_neg (by omega)])))
                  try simp only [Act.put, List.getElem_toArray, List.getElem_cons_succ, List.getElem_cons_zero, List.setIfInBounds_toArray, List.set_cons_zero, List.set_cons_succ]
                  refine Held.take (k := 17) (i := 18) (v := ?vsf17) nossf okksf_17 sizsf (by kernel_rfl) rfl (fun _ _ _ h => h) (Or.inl ⟨by kernel_rfl, ?hysf17⟩) (by assumption) ?restsf17
                  case hysf17 => (intro w hSw; (try dsimp only at hSw); go_simp; (try (first | with_reducible rfl | rw [if_neg (by omega)])))
                  try simp only [Act.put, List.getElem_toArray, List.getElem_cons_succ, List.getElem_cons_zero, List.setIfInBounds_toArray, List.set_cons_zero, List.set_cons_succ]
                  refine Held.take (k := 18) (i := 19) (v := ?vsf18) nossf okksf_18 sizsf (by kernel_rfl) rfl (fun _ _ _ h => h) (Or.inl ⟨by kernel_rfl, ?hysf18⟩) (by assumption) ?restsf18
                  case hysf18 => (intro w hSw; (try dsimp only at hSw); go_simp; (try (first | with_reducible rfl | rw [if_neg (by omega)])))
                  try simp only [Act.put, List.getElem_toArray, List.getElem_cons_succ, List.getElem_cons_zero, List.setIfInBounds_toArray, List.set_cons_zero, List.set_cons_succ]
                  refine Held.take (k := 19) (i := 20) (v := ?vsf19) nossf okksf_19 sizsf (by kernel_rfl) rfl (fun _ _ _ h => h) (Or.inl ⟨by kernel_rfl, ?hysf19⟩) (by assumption) ?restsf19
                  case hysf19 => (intro w hSw; (try dsimp only at hSw); go_simp; (try (first | with_reducible rfl | rw [if_neg (by omega)])))
                  try simp only [Act.put, List.getElem_toArray, List.getElem_cons_succ, List.getElem_cons_zero, List.setIfInBounds_toArray, List.set_cons_zero, List.set_cons_succ]
                  refine Held.take (k := 20) (i := 21) (v := ?vsf20) nossf okksf_20 sizsf (by kernel_rfl) rfl (fun _ _ _ h => h) (Or.inl ⟨by kernel_rfl, ?hysf20⟩) (by assumption) ?restsf20
                  case hysf20 => (intro w hSw; (try dsimp only at hSw); go_simp; (try (first | with_reducible rfl | rw [if_neg (by omega)])))
                  try simp only [Act.put, List.getElem_toArray, List.getElem_cons_succ, List.getElem_cons_zero, List.setIfInBounds_toArray, List.set_cons_zero, List.set_cons_succ]
                  refine Held.only (k := 21) (i := 12) rdysf_21 (by kernel_rfl) rfl (by kernel_rfl) (fun K hK => ?_)
                  go_simp
                  go_at_call 14
                  with_reducible refine (Get8_is n c A l _ (hl.below Dr) u q xa xb xc xd xe HX).mono ?_
                  rintro e w7 ⟨rfl, hbx⟩
                  replace Dr := below_call Dr hbx
                  replace hc := cell_below hbx hc
                  replace hd := cell_below hbx hd
                  replace hB5 := below_call hB5 hbx
                  refine hK.out _ _ (by (try dsimp only); (exact ⟨hc, hd⟩)) (fun hHeld => ?_)
                  clear hK K
                  try simp only [Act.put, List.getElem_toArray, List.getElem_cons_succ, List.getElem_cons_zero, List.setIfInBounds_toArray, List.set_cons_zero, List.set_cons_succ]
                  refine Held.only (k := 22) (i := 22) rdysf_22 (by kernel_rfl) rfl (by kernel_rfl) (fun K hK => ?_)
                  go_simp
                  go_at_call 14
                  with_reducible refine (Get8_is n c A l _ (hl.below Dr) q u ya yb yc yd ye HY).mono ?_
                  rintro e w8 ⟨rfl, hbx⟩
                  replace Dr := below_call Dr hbx
                  replace hc := cell_below hbx hc
                  replace hd := cell_below hbx hd
                  replace hB5 := below_call hB5 hbx
                  refine hK.out _ _ (by (try dsimp only); (exact ⟨hc, hd⟩)) (fun hHeld => ?_)
                  clear hK K
                  try simp only [Act.put, List.getElem_toArray, List.getElem_cons_succ, List.getElem_cons_zero, List.setIfInBounds_toArray, List.set_cons_zero, List.set_cons_succ]
                  refine Held.only (k := 23) (i := 23) rdysf_23 (by kernel_rfl) rfl (by kernel_rfl) (fun K hK => ?_)
                  go_simp
                  go_at_call 30
                  with_reducible refine (fit8_is _ _ _ _ _ _ _ _ _ _ HFF _).mono ?_
                  rintro e w9 ⟨rfl, hbx⟩
                  replace Dr := below_call Dr hbx
                  replace hc := cell_below hbx hc
                  replace hd := cell_below hbx hd
                  replace hB5 := below_call hB5 hbx
                  refine hK.out _ _ (by (try dsimp only); (exact ⟨hc, hd⟩)) (fun hHeld => ?_)
                  clear hK K
                  try simp only [Act.put, List.getElem_toArray, List.getElem_cons_succ, List.getElem_cons_zero, List.setIfInBounds_toArray, List.set_cons_zero, List.set_cons_succ]
                  refine Held.take (k := 24) (i := 24) (v := ?vsf24) nossf okksf_24 sizsf (by kernel_rfl) rfl (fun _ _ _ h => h) (Or.inl ⟨by kernel_rfl, ?hysf24⟩) (by assumption) ?restsf24
                  case hysf24 => (intro w hSw; (try dsimp only at hSw); go_simp; (try (first | with_reducible rfl | rw [if_neg (by omega)])))
                  try simp only [Act.put, List.getElem_toArray, List.getElem_cons_succ, List.getElem_cons_zero, List.setIfInBounds_toArray, List.set_cons_zero, List.set_cons_succ]
                  refine Held.take (k := 25) (i := 25) (v := ?vsf25) nossf okksf_25 sizsf (by kernel_rfl) rfl (fun _ _ _ h => h) (Or.inl ⟨by kernel_rfl, ?hysf25⟩) (by assumption) ?restsf25
                  case hysf25 => (intro w hSw; (try dsimp only at hSw); go_simp; (try (first | with_reducible rfl | rw [if_neg (by omega)])))
                  try simp only [Act.put, List.getElem_toArray, List.getElem_cons_succ, List.getElem_cons_zero, List.setIfInBounds_toArray, List.set_cons_zero, List.set_cons_succ]
                  refine wpAnyH_done (by kernel_rfl) ?_ _
                  clear hc hd
                  go_wp2
                  exact ⟨⟨j + 1, by go_num, by omega, hB5⟩, by simp [intOf]; omega⟩
            · have hjl : j = os.length := by omega
              subst hjl
              replace hB := below_call hB hB5
              clear hB5 Dr hc
              go_wp2
              exact ⟨⟨k + 1, m + os.length, by go_num, by go_num, by omega, HSN, hB⟩, by simp [intOf]; omega⟩
        · have hkl : k = us.length := by omega
          subst hkl
          have hmn : m = n := by
            have := HT.out
            rw [List.take_of_length_le (Nat.le_refl _), HALL.out] at this
            exact this.symm
          subst hmn
          replace D := below_call D hB
          clear HT hB
          go_wp2_with fail
          with_reducible refine (live08 _).mono ?_
          rintro e w7 ⟨rfl, b7⟩
          replace D := below_call D b7
          clear b7
          go_wp2
          go_ret
          exact ⟨rfl, D⟩
end Go.Proofs.Ytpmafghknafhaaa
