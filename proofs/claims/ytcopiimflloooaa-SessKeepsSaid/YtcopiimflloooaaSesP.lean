/-
Layer 9: the walk of SessKeeps.
-/
import Derived.Test.YtcopiimflloooaaSesN
import Derived.BigQuiet
set_option linter.unusedVariables false
set_option linter.unusedSimpArgs false
namespace Go.Proofs.Ytcopiimflloooaa
open Go.RowKit
open Sp
theorem putSe_same {l m : List Se} {s : Se} {e : Int} (h : putSe l s = (m, e)) (he : e ≠ 0) : m = l := by
  unfold putSe at h
  split at h
  · injection h with h _; exact h.symm
  · split at h
    · injection h with _ h; exact absurd h.symm he
    · split at h
      · injection h with h _; exact h.symm
      · injection h with _ h; exact absurd h.symm he
set_option maxHeartbeats 16000000 in
set_option maxRecDepth 100000 in
theorem keeps9_walk (n c : Nat) (A : Option Addr) (l : List Se) (s : Se) (o : ByteArray) (w : World) (hl : Row enSe 6 w (.slice A n c) l) (hz : SzS l) (hq : s.u.size ≤ 9223372036854775807 ∧ s.v.2.2.2.size ≤ 9223372036854775807) (ho : o.size ≤ 9223372036854775807) :
    Calls Try.prog 5 #[.slice A n c, vaSe s, .string o] w fun e w' => e = .returned (.bool true) ∧ Below w.heap.size w w' := by
  obtain ⟨u, i_, a, p, n_, t⟩ := s
  simp only at hq
  have EA := Lib.hid hl.len_eq
  have D := below_box (w := w) (bxSe u i_ a p n_ t)
  have hb := heap_alloc_new w (bxSe u i_ a p n_ t)
  have hz1 : SzS [⟨u, i_, a, p, n_, t⟩] := fun s hs => by rw [List.mem_singleton.1 hs]; exact hq
  cases h : fewSe l with
  | false =>
    have H := Lib.hid h
    clear h
    go_enter Try.func5, Try.ntmps5
    go_wp2_with fail
    with_reducible refine (few9_is n c A l _ (hl.below D) false hz H).mono ?_
    rintro e w1 ⟨rfl, b1⟩
    replace hb := hcall hb b1
    replace D := below_call D b1
    clear b1
    go_wp2_with fail
    with_reducible refine (live09 _).mono ?_
    rintro e w2 ⟨rfl, b2⟩
    replace hb := hcall hb b2
    replace D := below_call D b2
    clear b2
    go_wp2
    go_ret
    exact ⟨rfl, D⟩
  | true =>
  obtain ⟨hs, h50⟩ := few_sz h
  have hn : n ≤ 100000 := by have := EA.out; omega
  have H := Lib.hid h
  clear h h50
  cases h : maySe l with
  | false =>
    have HM := Lib.hid h
    clear h
    go_enter Try.func5, Try.ntmps5
    go_wp2_with fail
    with_reducible refine (few9_is n c A l _ (hl.below D) true hz H).mono ?_
    rintro e w1 ⟨rfl, b1⟩
    replace hb := hcall hb b1
    replace D := below_call D b1
    clear b1
    go_wp2_with fail
    with_reducible refine (refMay9_is n c A l _ (hl.below D) false hs HM).mono ?_
    rintro e w2 ⟨rfl, b2⟩
    replace hb := hcall hb b2
    replace D := below_call D b2
    clear b2
    go_wp2_with fail
    with_reducible refine (live09 _).mono ?_
    rintro e w3 ⟨rfl, b3⟩
    replace hb := hcall hb b3
    replace D := below_call D b3
    clear b3
    go_wp2
    go_ret
    exact ⟨rfl, D⟩
  | true =>
  have hm := Lib.hid h
  have HM := Lib.hid h
  clear h
  cases h : fewSe [⟨u, i_, a, p, n_, t⟩] with
  | false =>
    have H2 := Lib.hid h
    clear h
    go_enter Try.func5, Try.ntmps5
    go_wp2_with fail
    with_reducible refine (few9_is n c A l _ (hl.below D) true hz H).mono ?_
    rintro e w1 ⟨rfl, b1⟩
    replace hb := hcall hb b1
    replace D := below_call D b1
    clear b1
    go_wp2_with fail
    with_reducible refine (refMay9_is n c A l _ (hl.below D) true hs HM).mono ?_
    rintro e w2 ⟨rfl, b2⟩
    replace hb := hcall hb b2
    replace D := below_call D b2
    clear b2
    obtain ⟨s0, s1, s2, s3, s4, s5, sz⟩ := cellsSe u i_ a p n_ t hb
    have r1 := (Own.lit (e := 34) (base := 0) enSe_len w2 [⟨u, i_, a, p, n_, t⟩] #[.string u, .int .i64 i_, .int .i64 a, .int .i64 p, .int .i64 n_, .string t] 1 rfl rfl (Nat.zero_le _) (by omega)).row
    replace hb := halloc hb (bxSe u i_ a p n_ t)
    replace D := below_alloc0 D (bxSe u i_ a p n_ t)
    go_wp2_with fail
    with_reducible refine (few9_is 1 1 _ [⟨u, i_, a, p, n_, t⟩] _ r1 false hz1 H2).mono ?_
    rintro e w3 ⟨rfl, b3⟩
    replace hb := hcall hb b3
    replace D := below_call D b3
    clear b3 s0 s1 s2 s3 s4 s5 sz
    clear r1
    go_wp2_with fail
    with_reducible refine (live09 _).mono ?_
    rintro e w4 ⟨rfl, b4⟩
    replace hb := hcall hb b4
    replace D := below_call D b4
    clear b4
    go_wp2
    go_ret
    exact ⟨rfl, D⟩
  | true =>
  obtain ⟨hs1, _⟩ := few_sz h
  obtain ⟨hu, ht⟩ := hs1 _ (List.mem_singleton.2 rfl)
  simp only at hu ht
  have H2 := Lib.hid h
  clear h hs1
  by_cases hqs : (40 : Int) < (o.size : Int)
  · clear hu ht hm
    go_enter Try.func5, Try.ntmps5
    go_wp2_with fail
    with_reducible refine (few9_is n c A l _ (hl.below D) true hz H).mono ?_
    rintro e w1 ⟨rfl, b1⟩
    replace hb := hcall hb b1
    replace D := below_call D b1
    clear b1
    go_wp2_with fail
    with_reducible refine (refMay9_is n c A l _ (hl.below D) true hs HM).mono ?_
    rintro e w2 ⟨rfl, b2⟩
    replace hb := hcall hb b2
    replace D := below_call D b2
    clear b2
    obtain ⟨s0, s1, s2, s3, s4, s5, sz⟩ := cellsSe u i_ a p n_ t hb
    have r1 := (Own.lit (e := 34) (base := 0) enSe_len w2 [⟨u, i_, a, p, n_, t⟩] #[.string u, .int .i64 i_, .int .i64 a, .int .i64 p, .int .i64 n_, .string t] 1 rfl rfl (Nat.zero_le _) (by omega)).row
    replace hb := halloc hb (bxSe u i_ a p n_ t)
    replace D := below_alloc0 D (bxSe u i_ a p n_ t)
    go_wp2_with fail
    with_reducible refine (few9_is 1 1 _ [⟨u, i_, a, p, n_, t⟩] _ r1 true hz1 H2).mono ?_
    rintro e w3 ⟨rfl, b3⟩
    replace hb := hcall hb b3
    replace D := below_call D b3
    clear b3 s0 s1 s2 s3 s4 s5 sz
    clear r1
    go_wp2_with fail
    with_reducible refine (live09 _).mono ?_
    rintro e w4 ⟨rfl, b4⟩
    replace hb := hcall hb b4
    replace D := below_call D b4
    clear b4
    go_wp2
    go_ret
    exact ⟨rfl, D⟩
  have hos : (o.size : Int) ≤ 40 := by omega
  clear hqs
  obtain ⟨m, er, hp⟩ : ∃ r er, putSe l ⟨u, i_, a, p, n_, t⟩ = (r, er) := ⟨_, _, rfl⟩
  by_cases he : er ≠ 0
  · have hml := putSe_same hp he
    subst hml
    have HP := Lib.hid hp
    have hne : (er == 0) = false := by simpa using he
    clear hp he
    go_enter Try.func5, Try.ntmps5
    go_wp2_with fail
    with_reducible refine (few9_is n c A m _ (hl.below D) true hz H).mono ?_
    rintro e w1 ⟨rfl, b1⟩
    replace hb := hcall hb b1
    replace D := below_call D b1
    clear b1
    go_wp2_with fail
    with_reducible refine (refMay9_is n c A m _ (hl.below D) true hs HM).mono ?_
    rintro e w2 ⟨rfl, b2⟩
    replace hb := hcall hb b2
    replace D := below_call D b2
    clear b2
    obtain ⟨s0, s1, s2, s3, s4, s5, sz⟩ := cellsSe u i_ a p n_ t hb
    have r1 := (Own.lit (e := 34) (base := 0) enSe_len w2 [⟨u, i_, a, p, n_, t⟩] #[.string u, .int .i64 i_, .int .i64 a, .int .i64 p, .int .i64 n_, .string t] 1 rfl rfl (Nat.zero_le _) (by omega)).row
    replace hb := halloc hb (bxSe u i_ a p n_ t)
    replace D := below_alloc0 D (bxSe u i_ a p n_ t)
    go_wp2_with fail
    with_reducible refine (few9_is 1 1 _ [⟨u, i_, a, p, n_, t⟩] _ r1 true hz1 H2).mono ?_
    rintro e w3 ⟨rfl, b3⟩
    replace hb := hcall hb b3
    replace D := below_call D b3
    clear b3 s0 s1 s2 s3 s4 s5 sz
    clear r1
    obtain ⟨s0, s1, s2, s3, s4, s5, sz⟩ := cellsSe u i_ a p n_ t hb
    go_wp2_with fail
    with_reducible refine (Put9_is n c A m _ (hl.below D) u i_ a p n_ t m er hs hu ht HP).mono ?_
    rintro e w4 ⟨v4, rfl, r4, b4⟩
    replace hb := hcall hb b4
    replace D := below_call D b4
    clear b4 s0 s1 s2 s3 s4 s5 sz
    obtain ⟨A4, c4, rfl⟩ := r4.form _ rfl
    go_wp2_with fail
    with_reducible refine (re_ (sameSe _ _ _ _ _ _ m m _ r4 (hl.below D)) (ret_bool (decide_eq_true rfl))).mono ?_
    rintro e w5 ⟨rfl, b5⟩
    replace hb := hcall hb b5
    replace r4 := r4.below b5
    replace D := below_call D b5
    clear b5
    clear r4
    go_wp2_with fail
    with_reducible refine (live09 _).mono ?_
    rintro e w6 ⟨rfl, b6⟩
    replace hb := hcall hb b6
    replace D := below_call D b6
    clear b6
    go_wp2
    go_ret
    exact ⟨rfl, D⟩
  have he0 : er = 0 := Classical.not_not.1 he
  clear he
  subst he0
  obtain ⟨y, hd, hmm, hmy, hlen, hcnt, huq, hno, hoth⟩ := keeps_plain hm.out hp
  simp only [keySe] at hd
  have sm : SzSe m := maySe_sz hmm
  have hm32 := ((maySe_iff m).1 hmm).1
  obtain ⟨K, hK⟩ : ∃ K, y.length = K := ⟨_, rfl⟩
  have hM : m.length = K + 1 := by omega
  obtain ⟨M, hMM⟩ : ∃ M, M = K + 1 := ⟨_, rfl⟩
  rw [← hMM] at hM
  have hM32 : M ≤ 32 := by omega
  have hw1 : IntKind.i64.wrap ((M : Int) - 1) = (K : Int) := by
    have : (M : Int) - 1 = (K : Int) := by omega
    rw [this, IntKind.wrap_i64]; omega
  have hw2 : (M : Int) - 1 = (K : Int) := by omega
  have hM5 : M ≤ 100000 := by omega
  have hK5 : K ≤ 100000 := by omega
  have HML := Lib.hid hM
  have HYL := Lib.hid hK
  have HP := Lib.hid hp
  have HD := Lib.hid hd
  have HMM := Lib.hid hmm
  have HMY := Lib.hid hmy
  obtain ⟨os, hos1⟩ : ∃ r, ofSe m u = r := ⟨_, rfl⟩
  obtain ⟨ls, hls1⟩ : ∃ r, ofSe y u = r := ⟨_, rfl⟩
  simp only at hcnt huq hno hoth
  rw [hos1] at hcnt huq
  rw [hls1] at hno
  have HOS := Lib.hid hos1
  have HLS := Lib.hid hls1
  have HCNT := Lib.hid hcnt
  have HUQ := Lib.hid huq
  have HNO := Lib.hid hno
  have HOTH := Lib.hid hoth
  have sy : SzSe y := maySe_sz hmy
  clear hp hd hmm hmy hcnt huq hno hoth hos1 hls1 hlen hm32 hM hK hMM hm
  go_enter Try.func5, Try.ntmps5
  go_wp2_with fail
  with_reducible refine (few9_is n c A l _ (hl.below D) true hz H).mono ?_
  rintro e w1 ⟨rfl, b1⟩
  replace hb := hcall hb b1
  replace D := below_call D b1
  clear b1
  go_wp2_with fail
  with_reducible refine (refMay9_is n c A l _ (hl.below D) true hs HM).mono ?_
  rintro e w2 ⟨rfl, b2⟩
  replace hb := hcall hb b2
  replace D := below_call D b2
  clear b2
  obtain ⟨s0, s1, s2, s3, s4, s5, sz⟩ := cellsSe u i_ a p n_ t hb
  have r1 := (Own.lit (e := 34) (base := 0) enSe_len w2 [⟨u, i_, a, p, n_, t⟩] #[.string u, .int .i64 i_, .int .i64 a, .int .i64 p, .int .i64 n_, .string t] 1 rfl rfl (Nat.zero_le _) (by omega)).row
  replace hb := halloc hb (bxSe u i_ a p n_ t)
  replace D := below_alloc0 D (bxSe u i_ a p n_ t)
  go_wp2_with fail
  with_reducible refine (few9_is 1 1 _ [⟨u, i_, a, p, n_, t⟩] _ r1 true hz1 H2).mono ?_
  rintro e w3 ⟨rfl, b3⟩
  replace hb := hcall hb b3
  replace D := below_call D b3
  clear b3 s0 s1 s2 s3 s4 s5 sz
  clear r1
  obtain ⟨s0, s1, s2, s3, s4, s5, sz⟩ := cellsSe u i_ a p n_ t hb
  go_wp2_with fail
  with_reducible refine (Put9_is n c A l _ (hl.below D) u i_ a p n_ t m 0 hs hu ht HP).mono ?_
  rintro e w4 ⟨v4, rfl, r4, b4⟩
  replace hb := hcall hb b4
  replace D := below_call D b4
  clear b4 s0 s1 s2 s3 s4 s5 sz
  obtain ⟨A4, c4, rfl⟩ := r4.form _ HML.out
  obtain ⟨s0, s1, s2, s3, s4, s5, sz⟩ := cellsSe u i_ a p n_ t hb
  go_wp2_with fail
  with_reducible refine (Drop9_is _ _ _ m _ r4 u i_ y 0 sm HD).mono ?_
  rintro e w5 ⟨v5, rfl, r5, b5⟩
  replace hb := hcall hb b5
  replace r4 := r4.below b5
  replace D := below_call D b5
  clear b5 s0 s1 s2 s3 s4 s5 sz
  obtain ⟨A5, c5, rfl⟩ := r5.form _ HYL.out
  go_wp2_with fail
  with_reducible refine (May9_is _ _ _ m _ r4 true sm HMM).mono ?_
  rintro e w6 ⟨rfl, b6⟩
  replace hb := hcall hb b6
  replace r4 := r4.below b6
  replace r5 := r5.below b6
  replace D := below_call D b6
  clear b6
  go_wp2_with fail
  with_reducible refine (May9_is _ _ _ y _ r5 true sy HMY).mono ?_
  rintro e w7 ⟨rfl, b7⟩
  replace hb := hcall hb b7
  replace r4 := r4.below b7
  replace r5 := r5.below b7
  replace D := below_call D b7
  clear b7
  obtain ⟨s0, s1, s2, s3, s4, s5, sz⟩ := cellsSe u i_ a p n_ t hb
  go_wp2_with fail
  with_reducible refine (Of9_is _ _ _ m _ r4 u os hM5 HOS).mono ?_
  rintro e w8 ⟨v8, rfl, r8, b8⟩
  replace hb := hcall hb b8
  replace r4 := r4.below b8
  replace r5 := r5.below b8
  replace D := below_call D b8
  clear b8 s0 s1 s2 s3 s4 s5 sz
  obtain ⟨A8, c8, rfl⟩ := r8.form _ rfl
  go_wp2_with fail
  have hol := r8.len
  have h8 := hb
  go_loopw [11, 13] (fun vf vc wr => ∃ (i f : Nat), vc = .int .i64 i ∧ vf = .int .i64 f ∧ f ≤ i ∧ i ≤ os.length ∧ Hid ((os.take i).countP (fun x => decide (x.i = i_)) = f) ∧ Below w8.heap.size w8 wr) (fun _ vc _ => (os.length - intOf vc).toNat)
  case atStart => exact ⟨0, 0, rfl, rfl, Nat.le_refl _, Nat.zero_le _, rfl, Below.refl _ _⟩
  case round =>
    obtain ⟨i, f, rfl, rfl, hf, hi, HT, hB⟩ := hrel
    by_cases hlt : i < os.length
    · obtain ⟨⟨a_, b_, c_, d_, e_, f_⟩, he⟩ : ∃ e, os[i] = e := ⟨_, rfl⟩
      obtain ⟨ad, rfl, g0, g1, g2, g3, g4, g5⟩ := rowSe (r8.below hB) i hlt a_ b_ c_ d_ e_ f_ he
      obtain ⟨s0, s1, s2, s3, s4, s5, sz⟩ := cellsSe u i_ a p n_ t (hcall h8 hB)
      have x1 : (0 : Int) ≤ (i : Int) := by omega
      have x2 : (i : Int) < (os.length : Int) := by omega
      by_cases hbi : b_ = i_
      · have hse : (⟨a_, b_, c_, d_, e_, f_⟩ : Se) = ⟨u, i_, a, p, n_, t⟩ := HUQ.out _ (he ▸ List.getElem_mem hlt) hbi
        have HT2 : Hid ((os.take (i + 1)).countP (fun x => decide (x.i = i_)) = f + 1) := by
          show _ = _
          rw [List.take_succ_eq_append_getElem hlt, List.countP_append, HT.out, he, List.countP_singleton]
          simp [hbi]
        simp only [Se.mk.injEq, Prod.mk.injEq] at hse
        obtain ⟨rfl, rfl, rfl, rfl, rfl, rfl⟩ := hse
        have hcmp := neqSe a_ b_ c_ d_ e_ f_ a_ b_ c_ d_ e_ f_
        rw [eqvSe, decide_eq_true rfl] at hcmp
        clear he hbi
        go_wp2_with fail
        go_quiet (fail)
        go_wp2_with fail
        go_quiet (fail)
        go_wp2
        exact ⟨⟨i + 1, f + 1, by go_num, by go_num, by omega, by omega, HT2, by first | exact below_drewN hB _ | exact (below_drewN (below_drewN hB _) _)⟩, by simp [intOf]; omega⟩
      · have HT2 : Hid ((os.take (i + 1)).countP (fun x => decide (x.i = i_)) = f) := by
          show _ = _
          rw [List.take_succ_eq_append_getElem hlt, List.countP_append, HT.out, he, List.countP_singleton]
          simp [hbi]
        have hne : (b_ == i_) = false := by simpa using hbi
        clear he hbi
        go_wp2_with fail
        go_quiet (fail)
        go_wp2
        exact ⟨⟨i + 1, f, by go_num, rfl, by omega, by omega, HT2, below_drewN hB _⟩, by simp [intOf]; omega⟩
    · obtain rfl : i = os.length := by omega
      have hf1 : f = 1 := by
        have := HT.out
        rw [List.take_of_length_le (Nat.le_refl _), HCNT.out] at this
        exact this.symm
      subst hf1
      replace hb := hcall h8 hB
      replace r4 := r4.below hB
      replace r5 := r5.below hB
      replace D := below_call D hB
      clear HT hB hlt hi h8 r8 hf
      obtain ⟨s0, s1, s2, s3, s4, s5, sz⟩ := cellsSe u i_ a p n_ t hb
      go_wp2_with fail
      with_reducible refine (Of9_is _ _ _ y _ r5 u ls hK5 HLS).mono ?_
      rintro e w9 ⟨v9, rfl, r9, b9⟩
      replace hb := hcall hb b9
      replace r4 := r4.below b9
      replace r5 := r5.below b9
      replace D := below_call D b9
      clear b9 s0 s1 s2 s3 s4 s5 sz
      obtain ⟨A9, c9, rfl⟩ := r9.form _ rfl
      go_wp2_with fail
      have hll := r9.len
      have h9 := hb
      go_loopw [15] (fun vc wq => ∃ (j : Nat), vc = .int .i64 j ∧ j ≤ ls.length ∧ Below w9.heap.size w9 wq) (fun vc _ => (ls.length - intOf vc).toNat)
      case atStart => exact ⟨0, rfl, Nat.zero_le _, Below.refl _ _⟩
      case round =>
        obtain ⟨j, rfl, hj, hB⟩ := hrel
        by_cases hlt : j < ls.length
        · obtain ⟨⟨a_, b_, c_, d_, e_, f_⟩, he⟩ : ∃ e, ls[j] = e := ⟨_, rfl⟩
          obtain ⟨ad, rfl, g0, g1, g2, g3, g4, g5⟩ := rowSe (r9.below hB) j hlt a_ b_ c_ d_ e_ f_ he
          obtain ⟨s0, s1, s2, s3, s4, s5, sz⟩ := cellsSe u i_ a p n_ t (hcall h9 hB)
          have x1 : (0 : Int) ≤ (j : Int) := by omega
          have x2 : (j : Int) < (ls.length : Int) := by omega
          have hbi : b_ ≠ i_ := HNO.out ⟨a_, b_, c_, d_, e_, f_⟩ (he ▸ List.getElem_mem hlt)
          have hne : (b_ == i_) = false := by simpa using hbi
          clear he hbi
          go_wp2_with fail
          go_quiet (fail)
          go_wp2
          exact ⟨⟨j + 1, by go_num, by omega, below_drewN hB _⟩, by simp [intOf]; omega⟩
        · obtain rfl : j = ls.length := by omega
          replace hb := hcall h9 hB
          replace r4 := r4.below hB
          replace r5 := r5.below hB
          replace D := below_call D hB
          clear hB hlt hj h9 r9
          obtain ⟨s0, s1, s2, s3, s4, s5, sz⟩ := cellsSe u i_ a p n_ t hb
          by_cases hou : o = u
          · have hoe : (o.toList == u.toList) = true := by rw [hou]; exact beq_self_eq_true _
            clear hou
            go_wp2_with fail
            with_reducible refine (live09 _).mono ?_
            rintro e w10 ⟨rfl, b10⟩
            replace D := below_call D b10
            go_wp2
            go_ret
            exact ⟨rfl, D⟩
          · obtain ⟨h1, h2⟩ := HOTH.out o hou
            obtain ⟨q, hq0⟩ : ∃ q, ofSe l o = q := ⟨_, rfl⟩
            rw [hq0] at h1 h2
            have Q0 := Lib.hid hq0
            have Q1 := Lib.hid h1
            have Q2 := Lib.hid h2
            have hoe : (o.toList == u.toList) = false := by rw [← Bool.not_eq_true, beq_iff_eq, toList_inj']; exact hou
            clear hou h1 h2 hq0
            go_wp2_with fail
            with_reducible refine (Of9_is _ _ _ m _ r4 o q hM5 Q1).mono ?_
            rintro e w10 ⟨v10, rfl, q1, b10⟩
            replace hb := hcall hb b10
            replace r4 := r4.below b10
            replace r5 := r5.below b10
            replace D := below_call D b10
            clear b10 s0 s1 s2 s3 s4 s5 sz
            obtain ⟨B1, k1, rfl⟩ := q1.form _ rfl
            go_wp2_with fail
            with_reducible refine (Of9_is n c A l _ (hl.below D) o q hn Q0).mono ?_
            rintro e w11 ⟨v11, rfl, q2, b11⟩
            replace hb := hcall hb b11
            replace r4 := r4.below b11
            replace r5 := r5.below b11
            replace q1 := q1.below b11
            replace D := below_call D b11
            clear b11
            obtain ⟨B2, k2, rfl⟩ := q2.form _ rfl
            go_wp2_with fail
            with_reducible refine (re_ (sameSe _ _ _ _ _ _ q q _ q1 q2) (ret_bool (decide_eq_true rfl))).mono ?_
            rintro e w12 ⟨rfl, b12⟩
            replace hb := hcall hb b12
            replace r4 := r4.below b12
            replace r5 := r5.below b12
            replace q1 := q1.below b12
            replace q2 := q2.below b12
            replace D := below_call D b12
            clear b12
            clear q1 q2
            go_wp2_with fail
            with_reducible refine (Of9_is _ _ _ y _ r5 o q hK5 Q2).mono ?_
            rintro e w13 ⟨v13, rfl, q3, b13⟩
            replace hb := hcall hb b13
            replace r4 := r4.below b13
            replace r5 := r5.below b13
            replace D := below_call D b13
            clear b13
            obtain ⟨B3, k3, rfl⟩ := q3.form _ rfl
            go_wp2_with fail
            with_reducible refine (Of9_is n c A l _ (hl.below D) o q hn Q0).mono ?_
            rintro e w14 ⟨v14, rfl, q4, b14⟩
            replace hb := hcall hb b14
            replace r4 := r4.below b14
            replace r5 := r5.below b14
            replace q3 := q3.below b14
            replace D := below_call D b14
            clear b14
            obtain ⟨B4, k4, rfl⟩ := q4.form _ rfl
            go_wp2_with fail
            with_reducible refine (re_ (sameSe _ _ _ _ _ _ q q _ q3 q4) (ret_bool (decide_eq_true rfl))).mono ?_
            rintro e w15 ⟨rfl, b15⟩
            replace hb := hcall hb b15
            replace r4 := r4.below b15
            replace r5 := r5.below b15
            replace q3 := q3.below b15
            replace q4 := q4.below b15
            replace D := below_call D b15
            clear b15
            clear q3 q4
            go_wp2_with fail
            with_reducible refine (live09 _).mono ?_
            rintro e w16 ⟨rfl, b16⟩
            replace hb := hcall hb b16
            replace r4 := r4.below b16
            replace r5 := r5.below b16
            replace D := below_call D b16
            clear b16
            go_wp2
            go_ret
            exact ⟨rfl, D⟩
end Go.Proofs.Ytcopiimflloooaa
