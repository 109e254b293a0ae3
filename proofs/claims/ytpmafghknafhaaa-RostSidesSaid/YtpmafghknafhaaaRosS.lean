/-
Layer 8: the walk of RostWatchers.
-/
import Derived.Test.YtpmafghknafhaaaRosR
import Derived.Test.YtpmafghknafhaaaHeldA
set_option linter.unusedVariables false
set_option linter.unusedSimpArgs false
namespace Go.Proofs.Ytpmafghknafhaaa
open Go.RowKit
open Sp
theorem refLess_below (s t : ByteArray) (b : Bool) (h : Hid (less s t = b)) (w : World) :
    Calls Try.prog 28 #[.string s, .string t] w fun e w' => e = .returned (.bool b) ∧ Below w.heap.size w w' := (refLess_is w s t b h).mono fun e w' ⟨he, hw⟩ => ⟨he, hw ▸ Below.refl _ _⟩
def amongL (l : List ByteArray) (o : ByteArray) : Bool := l.any fun x => decide (x = o)
theorem among_snoc (l : List ByteArray) (i : Nat) (hi : i < l.length) (o : ByteArray) : amongL (l.take (i + 1)) o = (amongL (l.take i) o || decide (l[i] = o)) := by
  unfold amongL
  rw [List.take_succ_eq_append_getElem hi, List.any_append]
  simp
theorem among_sees (l : List En) (q o : ByteArray) : amongL (watchRo l q) o = seesRo l o q := by
  rw [Bool.eq_iff_iff, ← watchRo_mem]
  unfold amongL
  rw [List.any_eq_true]
  exact ⟨fun ⟨x, hx, e⟩ => by rw [← of_decide_eq_true e]; exact hx, fun h => ⟨o, h, decide_eq_true rfl⟩⟩
noncomputable def opssa : Array Oper := Held.inBody 8 Try.f7.body
def ordsa : List Nat := [0, 1, 2, 3, 4, 5, 6, 7, 8, 9, 10, 11, 12, 13, 14, 15, 16, 17, 18, 19, 20, 21, 22, 23, 24]
set_option maxRecDepth 100000 in
theorem sizsa : opssa.size = 25 := by kernel_rfl
set_option maxRecDepth 100000 in
theorem nossa : Region.noSelect opssa = true := by kernel_rfl
set_option maxRecDepth 100000 in
theorem okksa_0 : Held.okAt opssa ordsa 0 = true := by kernel_rfl
set_option maxRecDepth 100000 in
theorem okksa_1 : Held.okAt opssa ordsa 1 = true := by kernel_rfl
set_option maxRecDepth 100000 in
theorem okksa_2 : Held.okAt opssa ordsa 2 = true := by kernel_rfl
set_option maxRecDepth 100000 in
theorem okksa_3 : Held.okAt opssa ordsa 3 = true := by kernel_rfl
set_option maxRecDepth 100000 in
theorem okksa_4 : Held.okAt opssa ordsa 4 = true := by kernel_rfl
set_option maxRecDepth 100000 in
theorem okksa_5 : Held.okAt opssa ordsa 5 = true := by kernel_rfl
set_option maxRecDepth 100000 in
theorem okksa_7 : Held.okAt opssa ordsa 7 = true := by kernel_rfl
set_option maxRecDepth 100000 in
theorem okksa_8 : Held.okAt opssa ordsa 8 = true := by kernel_rfl
set_option maxRecDepth 100000 in
theorem okksa_9 : Held.okAt opssa ordsa 9 = true := by kernel_rfl
set_option maxRecDepth 100000 in
theorem okksa_10 : Held.okAt opssa ordsa 10 = true := by kernel_rfl
set_option maxRecDepth 100000 in
theorem okksa_11 : Held.okAt opssa ordsa 11 = true := by kernel_rfl
set_option maxRecDepth 100000 in
theorem okksa_12 : Held.okAt opssa ordsa 12 = true := by kernel_rfl
set_option maxRecDepth 100000 in
theorem okksa_13 : Held.okAt opssa ordsa 13 = true := by kernel_rfl
set_option maxRecDepth 100000 in
theorem okksa_14 : Held.okAt opssa ordsa 14 = true := by kernel_rfl
set_option maxRecDepth 100000 in
theorem okksa_15 : Held.okAt opssa ordsa 15 = true := by kernel_rfl
set_option maxRecDepth 100000 in
theorem okksa_16 : Held.okAt opssa ordsa 16 = true := by kernel_rfl
set_option maxRecDepth 100000 in
theorem okksa_17 : Held.okAt opssa ordsa 17 = true := by kernel_rfl
set_option maxRecDepth 100000 in
theorem okksa_18 : Held.okAt opssa ordsa 18 = true := by kernel_rfl
set_option maxRecDepth 100000 in
theorem okksa_19 : Held.okAt opssa ordsa 19 = true := by kernel_rfl
set_option maxRecDepth 100000 in
theorem okksa_20 : Held.okAt opssa ordsa 20 = true := by kernel_rfl
set_option maxRecDepth 100000 in
theorem okksa_21 : Held.okAt opssa ordsa 21 = true := by kernel_rfl
set_option maxRecDepth 100000 in
theorem okksa_22 : Held.okAt opssa ordsa 22 = true := by kernel_rfl
set_option maxRecDepth 100000 in
theorem okksa_23 : Held.okAt opssa ordsa 23 = true := by kernel_rfl
set_option maxRecDepth 100000 in
theorem okksa_24 : Held.okAt opssa ordsa 24 = true := by kernel_rfl
set_option maxRecDepth 100000 in
theorem rdysa_6 : Region.ready .any opssa (Held.lst 25 ordsa 6) = [6] := by kernel_rfl
noncomputable def opssb : Array Oper := Held.inBody 8 Try.f7.body
def ordsb : List Nat := [0, 1, 2, 3, 4, 5, 6, 7, 8, 9, 10, 11, 12, 13, 14, 15, 16, 17, 18, 19, 20, 21, 22, 23, 24]
set_option maxRecDepth 100000 in
theorem sizsb : opssb.size = 25 := by kernel_rfl
set_option maxRecDepth 100000 in
theorem nossb : Region.noSelect opssb = true := by kernel_rfl
set_option maxRecDepth 100000 in
theorem okksb_0 : Held.okAt opssb ordsb 0 = true := by kernel_rfl
set_option maxRecDepth 100000 in
theorem okksb_1 : Held.okAt opssb ordsb 1 = true := by kernel_rfl
set_option maxRecDepth 100000 in
theorem okksb_2 : Held.okAt opssb ordsb 2 = true := by kernel_rfl
set_option maxRecDepth 100000 in
theorem okksb_3 : Held.okAt opssb ordsb 3 = true := by kernel_rfl
set_option maxRecDepth 100000 in
theorem okksb_4 : Held.okAt opssb ordsb 4 = true := by kernel_rfl
set_option maxRecDepth 100000 in
theorem okksb_5 : Held.okAt opssb ordsb 5 = true := by kernel_rfl
set_option maxRecDepth 100000 in
theorem okksb_7 : Held.okAt opssb ordsb 7 = true := by kernel_rfl
set_option maxRecDepth 100000 in
theorem okksb_8 : Held.okAt opssb ordsb 8 = true := by kernel_rfl
set_option maxRecDepth 100000 in
theorem okksb_9 : Held.okAt opssb ordsb 9 = true := by kernel_rfl
set_option maxRecDepth 100000 in
theorem okksb_10 : Held.okAt opssb ordsb 10 = true := by kernel_rfl
set_option maxRecDepth 100000 in
theorem okksb_11 : Held.okAt opssb ordsb 11 = true := by kernel_rfl
set_option maxRecDepth 100000 in
theorem okksb_12 : Held.okAt opssb ordsb 12 = true := by kernel_rfl
set_option maxRecDepth 100000 in
theorem okksb_13 : Held.okAt opssb ordsb 13 = true := by kernel_rfl
set_option maxRecDepth 100000 in
theorem okksb_14 : Held.okAt opssb ordsb 14 = true := by kernel_rfl
set_option maxRecDepth 100000 in
theorem okksb_15 : Held.okAt opssb ordsb 15 = true := by kernel_rfl
set_option maxRecDepth 100000 in
theorem okksb_16 : Held.okAt opssb ordsb 16 = true := by kernel_rfl
set_option maxRecDepth 100000 in
theorem okksb_17 : Held.okAt opssb ordsb 17 = true := by kernel_rfl
set_option maxRecDepth 100000 in
theorem okksb_18 : Held.okAt opssb ordsb 18 = true := by kernel_rfl
set_option maxRecDepth 100000 in
theorem okksb_19 : Held.okAt opssb ordsb 19 = true := by kernel_rfl
set_option maxRecDepth 100000 in
theorem okksb_20 : Held.okAt opssb ordsb 20 = true := by kernel_rfl
set_option maxRecDepth 100000 in
theorem okksb_22 : Held.okAt opssb ordsb 22 = true := by kernel_rfl
set_option maxRecDepth 100000 in
theorem okksb_23 : Held.okAt opssb ordsb 23 = true := by kernel_rfl
set_option maxRecDepth 100000 in
theorem okksb_24 : Held.okAt opssb ordsb 24 = true := by kernel_rfl
set_option maxRecDepth 100000 in
theorem rdysb_6 : Region.ready .any opssb (Held.lst 25 ordsb 6) = [6] := by kernel_rfl
set_option maxRecDepth 100000 in
theorem rdysb_21 : Region.ready .any opssb (Held.lst 25 ordsb 21) = [21] := by kernel_rfl
set_option maxHeartbeats 32000000 in
set_option maxRecDepth 100000 in
theorem watch8_walk (n c : Nat) (A : Option Addr) (l : List En) (q o : ByteArray) (w : World) (hl : Row enEn 7 w (.slice A n c) l) (hz : SzE l) (hq : q.size ≤ 9223372036854775807) (ho : o.size ≤ 9223372036854775807) :
    Calls Try.prog 7 #[.slice A n c, .string q, .string o] w fun e w' => e = .returned (.bool true) ∧ Below w.heap.size w w' := by
  have EA := Lib.hid hl.len_eq
  have D := Below.refl w.heap.size w
  cases h : fewRo l with
  | false =>
    have H := Lib.hid h
    clear h
    go_enter Try.func7, Try.ntmps7
    go_wp2_with fail
    with_reducible refine (few8_is n c A l _ (hl.below D) false hz H).mono ?_
    rintro e w1 ⟨rfl, b1⟩
    replace D := below_call D b1
    clear b1
    go_wp2_with fail
    with_reducible refine (live08 _).mono ?_
    rintro e w2 ⟨rfl, b2⟩
    replace D := below_call D b2
    clear b2
    go_wp2
    go_ret
    exact ⟨rfl, D⟩
  | true =>
  obtain ⟨hs, h80⟩ := fewRo_sz h
  have hn : n ≤ 100000 := by have := EA.out; omega
  have H := Lib.hid h
  clear h
  cases h : mayRo l with
  | false =>
    have HM := Lib.hid h
    clear h
    go_enter Try.func7, Try.ntmps7
    go_wp2_with fail
    with_reducible refine (few8_is n c A l _ (hl.below D) true hz H).mono ?_
    rintro e w1 ⟨rfl, b1⟩
    replace D := below_call D b1
    clear b1
    go_wp2_with fail
    with_reducible refine (refMay8_is n c A l _ (hl.below D) false hs hn HM).mono ?_
    rintro e w2 ⟨rfl, b2⟩
    replace D := below_call D b2
    clear b2
    go_wp2_with fail
    with_reducible refine (live08 _).mono ?_
    rintro e w3 ⟨rfl, b3⟩
    replace D := below_call D b3
    clear b3
    go_wp2
    go_ret
    exact ⟨rfl, D⟩
  | true =>
  have hm := Lib.hid h
  have HM := Lib.hid h
  clear h
  by_cases hqs : (40 : Int) < (q.size : Int)
  · go_enter Try.func7, Try.ntmps7
    go_wp2_with fail
    with_reducible refine (few8_is n c A l _ (hl.below D) true hz H).mono ?_
    rintro e w1 ⟨rfl, b1⟩
    replace D := below_call D b1
    clear b1
    go_wp2_with fail
    with_reducible refine (refMay8_is n c A l _ (hl.below D) true hs hn HM).mono ?_
    rintro e w2 ⟨rfl, b2⟩
    replace D := below_call D b2
    clear b2
    go_wp2_with fail
    with_reducible refine (live08 _).mono ?_
    rintro e w3 ⟨rfl, b3⟩
    replace D := below_call D b3
    clear b3
    go_wp2
    go_ret
    exact ⟨rfl, D⟩
  have hqt : (q.size : Int) ≤ 40 := by omega
  clear hqs
  by_cases hos : (40 : Int) < (o.size : Int)
  · go_enter Try.func7, Try.ntmps7
    go_wp2_with fail
    with_reducible refine (few8_is n c A l _ (hl.below D) true hz H).mono ?_
    rintro e w1 ⟨rfl, b1⟩
    replace D := below_call D b1
    clear b1
    go_wp2_with fail
    with_reducible refine (refMay8_is n c A l _ (hl.below D) true hs hn HM).mono ?_
    rintro e w2 ⟨rfl, b2⟩
    replace D := below_call D b2
    clear b2
    go_wp2_with fail
    with_reducible refine (live08 _).mono ?_
    rintro e w3 ⟨rfl, b3⟩
    replace D := below_call D b3
    clear b3
    go_wp2
    go_ret
    exact ⟨rfl, D⟩
  have hot : (o.size : Int) ≤ 40 := by omega
  clear hos
  obtain ⟨ws, hw⟩ : ∃ r, watchRo l q = r := ⟨_, rfl⟩
  obtain ⟨os, hos⟩ : ∃ r, ofRo l q = r := ⟨_, rfl⟩
  have hwo := watch_of hm.out q
  have hso := watch_sorted l q
  have ham := among_sees l q o
  rw [hos, hw] at hwo
  rw [hw] at hso ham
  have hse : ∀ x ∈ ws, seesRo l x q = true := fun x hx => watchRo_mem.1 (by rw [hw]; exact hx)
  have hol : os.length ≤ 80 := by
    rw [← hos]
    unfold ofRo
    rw [List.length_map]
    have := List.length_filter_le (fun x : En => decide (x.o = q)) l
    omega
  have hwl : ws.length ≤ 80 := by
    rw [← hwo]
    have := List.length_filter_le (fun w => seesRo l w q) os
    omega
  have HW := Lib.hid hw
  have HO := Lib.hid hos
  have HWO := Lib.hid hwo
  have HSO := Lib.hid hso
  have HAM := Lib.hid ham
  have HSE := Lib.hid hse
  clear hw hos hwo hso ham hse hm h80
  go_enter Try.func7, Try.ntmps7
  go_wp2_with fail
  with_reducible refine (few8_is n c A l _ (hl.below D) true hz H).mono ?_
  rintro e w1 ⟨rfl, b1⟩
  replace D := below_call D b1
  clear b1
  go_wp2_with fail
  with_reducible refine (refMay8_is n c A l _ (hl.below D) true hs hn HM).mono ?_
  rintro e w2 ⟨rfl, b2⟩
  replace D := below_call D b2
  clear b2
  go_wp2_with fail
  with_reducible refine (Watch8_is n c A l _ (hl.below D) q ws hn HW).mono ?_
  rintro e w3 ⟨v3, rfl, r3, b3⟩
  replace D := below_call D b3
  clear b3
  obtain ⟨A3, c3, rfl⟩ := r3.form8 _ rfl
  go_wp2
  go_loopw [8, 9] (fun v8 v9 wr => ∃ (i : Nat) (am : Bool), v9 = .int .i64 i ∧ v8 = .bool am ∧ i ≤ ws.length ∧ Hid (amongL (ws.take i) o = am) ∧ Below w3.heap.size w3 wr) (fun _ v9 _ => (ws.length - intOf v9).toNat)
  case atStart => exact ⟨0, false, rfl, rfl, Nat.zero_le _, rfl, Below.refl _ _⟩
  case round =>
    obtain ⟨i, am, rfl, rfl, hi, HT, hB⟩ := hrel
    by_cases hlt : i < ws.length
    · obtain ⟨ad, rfl, hc⟩ := (r3.below hB).get1 (f := Value.string) i hlt
      have hsn := among_snoc ws i hlt o
      rw [HT.out] at hsn
      have hsi := HSE.out ws[i] (List.getElem_mem _)
      have x3 : (0 : Int) ≤ (i : Int) := by omega
      have x4 : (i : Int) < (ws.length : Int) := by omega
      have Dr := below_call D hB
      have HTT := HT
      clear HT
      by_cases hi0 : i = 0
      · have g1 : decide ((0 : Int) < (i : Int)) = false := decide_eq_false (by omega)
        have g1n : decide (0 < i) = false := decide_eq_false (by omega)
        obtain ⟨u, hu⟩ : ∃ u, ws[i] = u := ⟨_, rfl⟩
        rw [hu] at hc hsn hsi
        have HSN := Lib.hid hsn
        have HSI := Lib.hid hsi
        clear hu hi0 hsn hsi
        replace Dr := Dr.drew
        replace hB : Below _ _ wr.drew := hB.drew
        go_wp2_with fail
        refine Held.start (ops := opssa) (S := fun w' => w'.cell? (ad.add i) = some (.string u)) ordsa 25 (by kernel_rfl) sizsa (by kernel_rfl) hc (fun hHeld => ?_)
        refine Held.take (k := 0) (i := 0) (v := ?vsa0) nossa okksa_0 sizsa (by kernel_rfl) rfl (fun _ _ _ h => h) (Or.inl ⟨by kernel_rfl, ?hysa0⟩) (by assumption) ?restsa0
        case hysa0 => (intro w hSw; (try dsimp only at hSw); go_simp; (try (first | with_reducible rfl | rw [if_neg (by omega)])))
        try simp only [Act.put, List.getElem_toArray, List.getElem_cons_succ, List.getElem_cons_zero, List.setIfInBounds_toArray, List.set_cons_zero, List.set_cons_succ]
        refine Held.take (k := 1) (i := 1) (v := ?vsa1) nossa okksa_1 sizsa (by kernel_rfl) rfl (fun _ _ _ h => h) (Or.inl ⟨by kernel_rfl, ?hysa1⟩) (by assumption) ?restsa1
        case hysa1 => (intro w hSw; (try dsimp only at hSw); go_simp; (try (first | with_reducible rfl | rw [if_neg (by omega)])))
        try simp only [Act.put, List.getElem_toArray, List.getElem_cons_succ, List.getElem_cons_zero, List.setIfInBounds_toArray, List.set_cons_zero, List.set_cons_succ]
        refine Held.take (k := 2) (i := 2) (v := ?vsa2) nossa okksa_2 sizsa (by kernel_rfl) rfl (fun _ _ _ h => h) (Or.inl ⟨by kernel_rfl, ?hysa2⟩) (by assumption) ?restsa2
        case hysa2 => (intro w hSw; (try dsimp only at hSw); go_simp; (try (first | with_reducible rfl | rw [if_neg (by omega)])))
        try simp only [Act.put, List.getElem_toArray, List.getElem_cons_succ, List.getElem_cons_zero, List.setIfInBounds_toArray, List.set_cons_zero, List.set_cons_succ]
        refine Held.take (k := 3) (i := 3) (v := ?vsa3) nossa okksa_3 sizsa (by kernel_rfl) rfl (fun _ _ _ h => h) (Or.inl ⟨by kernel_rfl, ?hysa3⟩) (by assumption) ?restsa3
        case hysa3 => (intro w hSw; (try dsimp only at hSw); go_simp; (try (first | with_reducible rfl | rw [if_neg (by omega)])))
        try simp only [Act.put, List.getElem_toArray, List.getElem_cons_succ, List.getElem_cons_zero, List.setIfInBounds_toArray, List.set_cons_zero, List.set_cons_succ]
        refine Held.take (k := 4) (i := 4) (v := ?vsa4) nossa okksa_4 sizsa (by kernel_rfl) rfl (fun _ _ _ h => h) (Or.inl ⟨by kernel_rfl, ?hysa4⟩) (by assumption) ?restsa4
        case hysa4 => (intro w hSw; (try dsimp only at hSw); go_simp; (try (first | with_reducible rfl | rw [if_neg (by omega)])))
        try simp only [Act.put, List.getElem_toArray, List.getElem_cons_succ, List.getElem_cons_zero, List.setIfInBounds_toArray, List.set_cons_zero, List.set_cons_succ]
        refine Held.take (k := 5) (i := 5) (v := ?vsa5) nossa okksa_5 sizsa (by kernel_rfl) rfl (fun _ _ _ h => h) (Or.inl ⟨by kernel_rfl, ?hysa5⟩) (by assumption) ?restsa5
        case hysa5 => (intro w hSw; (try dsimp only at hSw); go_simp; (try (first | with_reducible rfl | rw [if_neg (by omega)])))
        try simp only [Act.put, List.getElem_toArray, List.getElem_cons_succ, List.getElem_cons_zero, List.setIfInBounds_toArray, List.set_cons_zero, List.set_cons_succ]
        refine Held.only (k := 6) (i := 6) rdysa_6 (by kernel_rfl) rfl (by kernel_rfl) (fun K hK => ?_)
        go_simp
        go_at_call 19
        with_reducible refine (Sees8_is n c A l _ (hl.below Dr) u q true HSI).mono ?_
        rintro e w4 ⟨rfl, hbx⟩
        replace Dr := below_call Dr hbx
        replace hc := cell_below hbx hc
        replace hB := below_call hB hbx
        refine hK.out _ _ (by (try dsimp only); (exact hc)) (fun hHeld => ?_)
        clear hK K
        try simp only [Act.put, List.getElem_toArray, List.getElem_cons_succ, List.getElem_cons_zero, List.setIfInBounds_toArray, List.set_cons_zero, List.set_cons_succ]
        refine Held.take (k := 7) (i := 7) (v := ?vsa7) nossa okksa_7 sizsa (by kernel_rfl) rfl (fun _ _ _ h => h) (Or.inl ⟨by kernel_rfl, ?hysa7⟩) (by assumption) ?restsa7
        case hysa7 => (intro w hSw; (try dsimp only at hSw); go_simp; (try (first | with_reducible rfl | rw [if_neg (by omega)])))
        try simp only [Act.put, List.getElem_toArray, List.getElem_cons_succ, List.getElem_cons_zero, List.setIfInBounds_toArray, List.set_cons_zero, List.set_cons_succ]
        refine Held.take (k := 8) (i := 8) (v := ?vsa8) nossa okksa_8 sizsa (by kernel_rfl) rfl (fun _ _ _ h => h) (Or.inl ⟨by kernel_rfl, ?hysa8⟩) (by assumption) ?restsa8
        case hysa8 => (intro w hSw; (try dsimp only at hSw); go_simp; (try (first | with_reducible rfl | rw [if_neg (by omega)])))
        try simp only [Act.put, List.getElem_toArray, List.getElem_cons_succ, List.getElem_cons_zero, List.setIfInBounds_toArray, List.set_cons_zero, List.set_cons_succ]
        refine Held.take (k := 9) (i := 9) (v := ?vsa9) nossa okksa_9 sizsa (by kernel_rfl) rfl (fun _ _ _ h => h) (Or.inl ⟨by kernel_rfl, ?hysa9⟩) (by assumption) ?restsa9
        case hysa9 => (intro w hSw; (try dsimp only at hSw); go_simp; (try (first | with_reducible rfl | rw [if_neg (by omega)])))
        try simp only [Act.put, List.getElem_toArray, List.getElem_cons_succ, List.getElem_cons_zero, List.setIfInBounds_toArray, List.set_cons_zero, List.set_cons_succ]
        refine Held.take (k := 10) (i := 10) (v := ?vsa10) nossa okksa_10 sizsa (by kernel_rfl) rfl (fun _ _ _ h => h) (Or.inl ⟨by kernel_rfl, ?hysa10⟩) (by assumption) ?restsa10
        case hysa10 => (intro w hSw; (try dsimp only at hSw); go_simp; (try (first | with_reducible rfl | rw [if_neg (by omega)])))
        try simp only [Act.put, List.getElem_toArray, List.getElem_cons_succ, List.getElem_cons_zero, List.setIfInBounds_toArray, List.set_cons_zero, List.set_cons_succ]
        refine Held.take (k := 11) (i := 11) (v := ?vsa11) nossa okksa_11 sizsa (by kernel_rfl) rfl (fun _ _ _ h => h) (Or.inl ⟨by kernel_rfl, ?hysa11⟩) (by assumption) ?restsa11
        case hysa11 => (intro w hSw; (try dsimp only at hSw); go_simp; (try (first | with_reducible rfl | rw [if_neg (by omega)])))
        try simp only [Act.put, List.getElem_toArray, List.getElem_cons_succ, List.getElem_cons_zero, List.setIfInBounds_toArray, List.set_cons_zero, List.set_cons_succ]
        refine Held.take (k := 12) (i := 12) (v := undef) nossa okksa_12 sizsa (by kernel_rfl) rfl (fun _ _ _ h => h) (Or.inr ⟨by kernel_rfl, rfl⟩) (by assumption) ?_
        try simp only [Act.put, List.getElem_toArray, List.getElem_cons_succ, List.getElem_cons_zero, List.setIfInBounds_toArray, List.set_cons_zero, List.set_cons_succ]
        refine Held.take (k := 13) (i := 13) (v := undef) nossa okksa_13 sizsa (by kernel_rfl) rfl (fun _ _ _ h => h) (Or.inr ⟨by kernel_rfl, rfl⟩) (by assumption) ?_
        try simp only [Act.put, List.getElem_toArray, List.getElem_cons_succ, List.getElem_cons_zero, List.setIfInBounds_toArray, List.set_cons_zero, List.set_cons_succ]
        refine Held.take (k := 14) (i := 14) (v := undef) nossa okksa_14 sizsa (by kernel_rfl) rfl (fun _ _ _ h => h) (Or.inr ⟨by kernel_rfl, rfl⟩) (by assumption) ?_
        try simp only [Act.put, List.getElem_toArray, List.getElem_cons_succ, List.getElem_cons_zero, List.setIfInBounds_toArray, List.set_cons_zero, List.set_cons_succ]
        refine Held.take (k := 15) (i := 15) (v := undef) nossa okksa_15 sizsa (by kernel_rfl) rfl (fun _ _ _ h => h) (Or.inr ⟨by kernel_rfl, rfl⟩) (by assumption) ?_
        try simp only [Act.put, List.getElem_toArray, List.getElem_cons_succ, List.getElem_cons_zero, List.setIfInBounds_toArray, List.set_cons_zero, List.set_cons_succ]
        refine Held.take (k := 16) (i := 16) (v := undef) nossa okksa_16 sizsa (by kernel_rfl) rfl (fun _ _ _ h => h) (Or.inr ⟨by kernel_rfl, rfl⟩) (by assumption) ?_
        try simp only [Act.put, List.getElem_toArray, List.getElem_cons_succ, List.getElem_cons_zero, List.setIfInBounds_toArray, List.set_cons_zero, List.set_cons_succ]
        refine Held.take (k := 17) (i := 17) (v := undef) nossa okksa_17 sizsa (by kernel_rfl) rfl (fun _ _ _ h => h) (Or.inr ⟨by kernel_rfl, rfl⟩) (by assumption) ?_
        try simp only [Act.put, List.getElem_toArray, List.getElem_cons_succ, List.getElem_cons_zero, List.setIfInBounds_toArray, List.set_cons_zero, List.set_cons_succ]
        refine Held.take (k := 18) (i := 18) (v := undef) nossa okksa_18 sizsa (by kernel_rfl) rfl (fun _ _ _ h => h) (Or.inr ⟨by kernel_rfl, rfl⟩) (by assumption) ?_
        try simp only [Act.put, List.getElem_toArray, List.getElem_cons_succ, List.getElem_cons_zero, List.setIfInBounds_toArray, List.set_cons_zero, List.set_cons_succ]
        refine Held.take (k := 19) (i := 19) (v := undef) nossa okksa_19 sizsa (by kernel_rfl) rfl (fun _ _ _ h => h) (Or.inr ⟨by kernel_rfl, rfl⟩) (by assumption) ?_
        try simp only [Act.put, List.getElem_toArray, List.getElem_cons_succ, List.getElem_cons_zero, List.setIfInBounds_toArray, List.set_cons_zero, List.set_cons_succ]
        refine Held.take (k := 20) (i := 20) (v := undef) nossa okksa_20 sizsa (by kernel_rfl) rfl (fun _ _ _ h => h) (Or.inr ⟨by kernel_rfl, rfl⟩) (by assumption) ?_
        try simp only [Act.put, List.getElem_toArray, List.getElem_cons_succ, List.getElem_cons_zero, List.setIfInBounds_toArray, List.set_cons_zero, List.set_cons_succ]
        refine Held.take (k := 21) (i := 21) (v := undef) nossa okksa_21 sizsa (by kernel_rfl) rfl (fun _ _ _ h => h) (Or.inr ⟨by kernel_rfl, rfl⟩) (by assumption) ?_
        try simp only [Act.put, List.getElem_toArray, List.getElem_cons_succ, List.getElem_cons_zero, List.setIfInBounds_toArray, List.set_cons_zero, List.set_cons_succ]
        refine Held.take (k := 22) (i := 22) (v := undef) nossa okksa_22 sizsa (by kernel_rfl) rfl (fun _ _ _ h => h) (Or.inr ⟨by kernel_rfl, rfl⟩) (by assumption) ?_
        try simp only [Act.put, List.getElem_toArray, List.getElem_cons_succ, List.getElem_cons_zero, List.setIfInBounds_toArray, List.set_cons_zero, List.set_cons_succ]
        refine Held.take (k := 23) (i := 23) (v := ?vsa23) nossa okksa_23 sizsa (by kernel_rfl) rfl (fun _ _ _ h => h) (Or.inl ⟨by kernel_rfl, ?hysa23⟩) (by assumption) ?restsa23
        case hysa23 => (intro w hSw; (try dsimp only at hSw); go_simp; (try (first | with_reducible rfl | rw [if_neg (by omega)])))
        try simp only [Act.put, List.getElem_toArray, List.getElem_cons_succ, List.getElem_cons_zero, List.setIfInBounds_toArray, List.set_cons_zero, List.set_cons_succ]
        refine Held.take (k := 24) (i := 24) (v := ?vsa24) nossa okksa_24 sizsa (by kernel_rfl) rfl (fun _ _ _ h => h) (Or.inl ⟨by kernel_rfl, ?hysa24⟩) (by assumption) ?restsa24
        case hysa24 => (intro w hSw; (try dsimp only at hSw); go_simp; (try (first | with_reducible rfl | rw [if_neg (by omega)])))
        try simp only [Act.put, List.getElem_toArray, List.getElem_cons_succ, List.getElem_cons_zero, List.setIfInBounds_toArray, List.set_cons_zero, List.set_cons_succ]
        refine wpAnyH_done (by kernel_rfl) ?_ _
        by_cases huo : u = o
        · have e1 : (u.toList == o.toList) = true := by rw [huo]; exact beq_self_eq_true _
          have HT2 : Hid (amongL (ws.take (i + 1)) o = true) := by show _ = _; rw [HSN.out, decide_eq_true huo, Bool.or_true]
          clear huo Dr
          cases am <;> go_wp2
          all_goals exact ⟨⟨i + 1, true, by go_num, rfl, by omega, HT2, hB⟩, by simp [intOf]; omega⟩
        · have e1 : (u.toList == o.toList) = false := by simpa [toList_inj'] using huo
          have HT2 : Hid (amongL (ws.take (i + 1)) o = am) := by show _ = _; rw [HSN.out, decide_eq_false huo, Bool.or_false]
          clear huo Dr
          cases am <;> go_wp2
          all_goals exact ⟨⟨i + 1, _, by go_num, rfl, by omega, HT2, hB⟩, by simp [intOf]; omega⟩
      · have g1 : decide ((0 : Int) < (i : Int)) = true := decide_eq_true (by omega)
        have g1n : decide (0 < i) = true := decide_eq_true (by omega)
        obtain ⟨k, hk⟩ : ∃ k, k = i - 1 := ⟨_, rfl⟩
        have hki : k + 1 = i := by omega
        have hkl : k < ws.length := by omega
        have hw1 : IntKind.i64.wrap ((i : Int) - 1) = ((k : Nat) : Int) := by
          have : (i : Int) - 1 = (k : Int) := by omega
          rw [this, IntKind.wrap_i64]; omega
        have x1 : (0 : Int) ≤ (k : Int) := by omega
        have x2 : (k : Int) < (ws.length : Int) := by omega
        obtain ⟨ad2, had2, hc2⟩ := (r3.below hB).get1 (f := Value.string) k hkl
        obtain rfl : ad = ad2 := by injection had2
        have hls : less ws[k] ws[i] = true := List.pairwise_iff_getElem.1 HSO.out k i hkl hlt (by omega)
        obtain ⟨u, hu⟩ : ∃ u, ws[i] = u := ⟨_, rfl⟩
        obtain ⟨p, hp⟩ : ∃ u, ws[k] = u := ⟨_, rfl⟩
        rw [hu] at hc hsn hsi hls
        rw [hp] at hc2 hls
        have HSN := Lib.hid hsn
        have HSI := Lib.hid hsi
        have HLS := Lib.hid hls
        clear hu hp hi0 hsn hsi hls had2 hk hki
        replace Dr := Dr.drew
        replace hB : Below _ _ wr.drew := hB.drew
        go_wp2_with fail
        refine Held.start (ops := opssb) (S := fun w' => w'.cell? (ad.add i) = some (.string u) ∧ w'.cell? (ad.add k) = some (.string p)) ordsb 25 (by kernel_rfl) sizsb (by kernel_rfl) ⟨hc, hc2⟩ (fun hHeld => ?_)
        refine Held.take (k := 0) (i := 0) (v := ?vsb0) nossb okksb_0 sizsb (by kernel_rfl) rfl (fun _ _ _ h => h) (Or.inl ⟨by kernel_rfl, ?hysb0⟩) (by assumption) ?restsb0
        case hysb0 => (intro w hSw; (try dsimp only at hSw); go_simp; (try (first | with_reducible rfl | rw [if_neg (by omega)])))
        try simp only [Act.put, List.getElem_toArray, List.getElem_cons_succ, List.getElem_cons_zero, List.setIfInBounds_toArray, List.set_cons_zero, List.set_cons_succ]
        refine Held.take (k := 1) (i := 1) (v := ?vsb1) nossb okksb_1 sizsb (by kernel_rfl) rfl (fun _ _ _ h => h) (Or.inl ⟨by kernel_rfl, ?hysb1⟩) (by assumption) ?restsb1
        case hysb1 => (intro w hSw; (try dsimp only at hSw); go_simp; (try (first | with_reducible rfl | rw [if_neg (by omega)])))
        try simp only [Act.put, List.getElem_toArray, List.getElem_cons_succ, List.getElem_cons_zero, List.setIfInBounds_toArray, List.set_cons_zero, List.set_cons_succ]
        refine Held.take (k := 2) (i := 2) (v := ?vsb2) nossb okksb_2 sizsb (by kernel_rfl) rfl (fun _ _ _ h => h) (Or.inl ⟨by kernel_rfl, ?hysb2⟩) (by assumption) ?restsb2
        case hysb2 => (intro w hSw; (try dsimp only at hSw); go_simp; (try (first | with_reducible rfl | rw [if_neg (by omega)])))
        try simp only [Act.put, List.getElem_toArray, List.getElem_cons_succ, List.getElem_cons_zero, List.setIfInBounds_toArray, List.set_cons_zero, List.set_cons_succ]
        refine Held.take (k := 3) (i := 3) (v := ?vsb3) nossb okksb_3 sizsb (by kernel_rfl) rfl (fun _ _ _ h => h) (Or.inl ⟨by kernel_rfl, ?hysb3⟩) (by assumption) ?restsb3
        case hysb3 => (intro w hSw; (try dsimp only at hSw); go_simp; (try (first | with_reducible rfl | rw [if_neg (by omega)])))
        try simp only [Act.put, List.getElem_toArray, List.getElem_cons_succ, List.getElem_cons_zero, List.setIfInBounds_toArray, List.set_cons_zero, List.set_cons_succ]
        refine Held.take (k := 4) (i := 4) (v := ?vsb4) nossb okksb_4 sizsb (by kernel_rfl) rfl (fun _ _ _ h => h) (Or.inl ⟨by kernel_rfl, ?hysb4⟩) (by assumption) ?restsb4
        case hysb4 => (intro w hSw; (try dsimp only at hSw); go_simp; (try (first | with_reducible rfl | rw [if_neg (by omega)])))
        try simp only [Act.put, List.getElem_toArray, List.getElem_cons_succ, List.getElem_cons_zero, List.setIfInBounds_toArray, List.set_cons_zero, List.set_cons_succ]
        refine Held.take (k := 5) (i := 5) (v := ?vsb5) nossb okksb_5 sizsb (by kernel_rfl) rfl (fun _ _ _ h => h) (Or.inl ⟨by kernel_rfl, ?hysb5⟩) (by assumption) ?restsb5
        case hysb5 => (intro w hSw; (try dsimp only at hSw); go_simp; (try (first | with_reducible rfl | rw [if_neg (by omega)])))
        try simp only [Act.put, List.getElem_toArray, List.getElem_cons_succ, List.getElem_cons_zero, List.setIfInBounds_toArray, List.set_cons_zero, List.set_cons_succ]
        refine Held.only (k := 6) (i := 6) rdysb_6 (by kernel_rfl) rfl (by kernel_rfl) (fun K hK => ?_)
        go_simp
        go_at_call 19
        with_reducible refine (Sees8_is n c A l _ (hl.below Dr) u q true HSI).mono ?_
        rintro e w4 ⟨rfl, hbx⟩
        replace Dr := below_call Dr hbx
        replace hc := cell_below hbx hc
        replace hc2 := cell_below hbx hc2
        replace hB := below_call hB hbx
        refine hK.out _ _ (by (try dsimp only); (exact ⟨hc, hc2⟩)) (fun hHeld => ?_)
        clear hK K
        try simp only [Act.put, List.getElem_toArray, List.getElem_cons_succ, List.getElem_cons_zero, List.setIfInBounds_toArray, List.set_cons_zero, List.set_cons_succ]
        refine Held.take (k := 7) (i := 7) (v := ?vsb7) nossb okksb_7 sizsb (by kernel_rfl) rfl (fun _ _ _ h => h) (Or.inl ⟨by kernel_rfl, ?hysb7⟩) (by assumption) ?restsb7
        case hysb7 => (intro w hSw; (try dsimp only at hSw); go_simp; (try (first | with_reducible rfl | rw [if_neg (by omega)])))
        try simp only [Act.put, List.getElem_toArray, List.getElem_cons_succ, List.getElem_cons_zero, List.setIfInBounds_toArray, List.set_cons_zero, List.set_cons_succ]
        refine Held.take (k := 8) (i := 8) (v := ?vsb8) nossb okksb_8 sizsb (by kernel_rfl) rfl (fun _ _ _ h => h) (Or.inl ⟨by kernel_rfl, ?hysb8⟩) (by assumption) ?restsb8
        case hysb8 => (intro w hSw; (try dsimp only at hSw); go_simp; (try (first | with_reducible rfl | rw [if_neg (by omega)])))
        try simp only [Act.put, List.getElem_toArray, List.getElem_cons_succ, List.getElem_cons_zero, List.setIfInBounds_toArray, List.set_cons_zero, List.set_cons_succ]
        refine Held.take (k := 9) (i := 9) (v := ?vsb9) nossb okksb_9 sizsb (by kernel_rfl) rfl (fun _ _ _ h => h) (Or.inl ⟨by kernel_rfl, ?hysb9⟩) (by assumption) ?restsb9
        case hysb9 => (intro w hSw; (try dsimp only at hSw); go_simp; (try (first | with_reducible rfl | rw [if_neg (by omega)])))
        try simp only [Act.put, List.getElem_toArray, List.getElem_cons_succ, List.getElem_cons_zero, List.setIfInBounds_toArray, List.set_cons_zero, List.set_cons_succ]
        refine Held.take (k := 10) (i := 10) (v := ?vsb10) nossb okksb_10 sizsb (by kernel_rfl) rfl (fun _ _ _ h => h) (Or.inl ⟨by kernel_rfl, ?hysb10⟩) (by assumption) ?restsb10
        case hysb10 => (intro w hSw; (try dsimp only at hSw); go_simp; (try (first | with_reducible rfl | rw [if_neg (by omega)])))
        try simp only [Act.put, List.getElem_toArray, List.getElem_cons_succ, List.getElem_cons_zero, List.setIfInBounds_toArray, List.set_cons_zero, List.set_cons_succ]
        refine Held.take (k := 11) (i := 11) (v := ?vsb11) nossb okksb_11 sizsb (by kernel_rfl) rfl (fun _ _ _ h => h) (Or.inl ⟨by kernel_rfl, ?hysb11⟩) (by assumption) ?restsb11
        case hysb11 => (intro w hSw; (try dsimp only at hSw); go_simp; (try (first | with_reducible rfl | rw [if_neg (by omega)])))
        try simp only [Act.put, List.getElem_toArray, List.getElem_cons_succ, List.getElem_cons_zero, List.setIfInBounds_toArray, List.set_cons_zero, List.set_cons_succ]
        refine Held.take (k := 12) (i := 12) (v := ?vsb12) nossb okksb_12 sizsb (by kernel_rfl) rfl (fun _ _ _ h => h) (Or.inl ⟨by kernel_rfl, ?hysb12⟩) (by assumption) ?restsb12
        case hysb12 => (intro w hSw; (try dsimp only at hSw); go_simp; (try (first | with_reducible rfl | rw [if_neg (by omega)])))
        try simp only [Act.put, List.getElem_toArray, List.getElem_cons_succ, List.getElem_cons_zero, List.setIfInBounds_toArray, List.set_cons_zero, List.set_cons_succ]
        refine Held.take (k := 13) (i := 13) (v := ?vsb13) nossb okksb_13 sizsb (by kernel_rfl) rfl (fun _ _ _ h => h) (Or.inl ⟨by kernel_rfl, ?hysb13⟩) (by assumption) ?restsb13
        case hysb13 => (intro w hSw; (try dsimp only at hSw); go_simp; (try (first | with_reducible rfl | rw [if_neg (by omega)])))
        try simp only [Act.put, List.getElem_toArray, List.getElem_cons_succ, List.getElem_cons_zero, List.setIfInBounds_toArray, List.set_cons_zero, List.set_cons_succ]
        refine Held.take (k := 14) (i := 14) (v := ?vsb14) nossb okksb_14 sizsb (by kernel_rfl) rfl (fun _ _ _ h => h) (Or.inl ⟨by kernel_rfl, ?hysb14⟩) (by assumption) ?restsb14
        case hysb14 => (intro w hSw; (try dsimp only at hSw); go_simp; (try (first | with_reducible rfl | rw [if_neg (by omega)])))
        try simp only [Act.put, List.getElem_toArray, List.getElem_cons_succ, List.getElem_cons_zero, List.setIfInBounds_toArray, List.set_cons_zero, List.set_cons_succ]
        refine Held.take (k := 15) (i := 15) (v := ?vsb15) nossb okksb_15 sizsb (by kernel_rfl) rfl (fun _ _ _ h => h) (Or.inl ⟨by kernel_rfl, ?hysb15⟩) (by assumption) ?restsb15
        case hysb15 => (intro w hSw; (try dsimp only at hSw); go_simp; (try (first | with_reducible rfl | rw [if_neg (by omega)])))
        try simp only [Act.put, List.getElem_toArray, List.getElem_cons_succ, List.getElem_cons_zero, List.setIfInBounds_toArray, List.set_cons_zero, List.set_cons_succ]
        refine Held.take (k := 16) (i := 16) (v := ?vsb16) nossb okksb_16 sizsb (by kernel_rfl) rfl (fun _ _ _ h => h) (Or.inl ⟨by kernel_rfl, ?hysb16⟩) (by assumption) ?restsb16
        case hysb16 => (intro w hSw; (try dsimp only at hSw); go_simp; (try (first | with_reducible rfl | rw [if_neg (by omega)])))
        try simp only [Act.put, List.getElem_toArray, List.getElem_cons_succ, List.getElem_cons_zero, List.setIfInBounds_toArray, List.set_cons_zero, List.set_cons_succ]
        refine Held.take (k := 17) (i := 17) (v := ?vsb17) nossb okksb_17 sizsb (by kernel_rfl) rfl (fun _ _ _ h => h) (Or.inl ⟨by kernel_rfl, ?hysb17⟩) (by assumption) ?restsb17
        case hysb17 => (intro w hSw; (try dsimp only at hSw); go_simp; (try (first | with_reducible rfl | rw [if_neg (by omega)])))
        try simp only [Act.put, List.getElem_toArray, List.getElem_cons_succ, List.getElem_cons_zero, List.setIfInBounds_toArray, List.set_cons_zero, List.set_cons_succ]
        refine Held.take (k := 18) (i := 18) (v := ?vsb18) nossb okksb_18 sizsb (by kernel_rfl) rfl (fun _ _ _ h => h) (Or.inl ⟨by kernel_rfl, ?hysb18⟩) (by assumption) ?restsb18
        case hysb18 => (intro w hSw; (try dsimp only at hSw); go_simp; (try (first | with_reducible rfl | rw [if_neg (by omega)])))
        try simp only [Act.put, List.getElem_toArray, List.getElem_cons_succ, List.getElem_cons_zero, List.setIfInBounds_toArray, List.set_cons_zero, List.set_cons_succ]
        refine Held.take (k := 19) (i := 19) (v := ?vsb19) nossb okksb_19 sizsb (by kernel_rfl) rfl (fun _ _ _ h => h) (Or.inl ⟨by kernel_rfl, ?hysb19⟩) (by assumption) ?restsb19
        case hysb19 => (intro w hSw; (try dsimp only at hSw); go_simp; (try (first | with_reducible rfl | rw [if_neg (by omega)])))
        try simp only [Act.put, List.getElem_toArray, List.getElem_cons_succ, List.getElem_cons_zero, List.setIfInBounds_toArray, List.set_cons_zero, List.set_cons_succ]
        refine Held.take (k := 20) (i := 20) (v := ?vsb20) nossb okksb_20 sizsb (by kernel_rfl) rfl (fun _ _ _ h => h) (Or.inl ⟨by kernel_rfl, ?hysb20⟩) (by assumption) ?restsb20
        case hysb20 => (intro w hSw; (try dsimp only at hSw); go_simp; (try (first | with_reducible rfl | rw [if_neg (by omega)])))
        try simp only [Act.put, List.getElem_toArray, List.getElem_cons_succ, List.getElem_cons_zero, List.setIfInBounds_toArray, List.set_cons_zero, List.set_cons_succ]
        refine Held.only (k := 21) (i := 21) rdysb_21 (by kernel_rfl) rfl (by kernel_rfl) (fun K hK => ?_)
        go_simp
        go_at_call 28
        with_reducible refine (refLess_below p u true HLS _).mono ?_
        rintro e w5 ⟨rfl, hbx⟩
        replace Dr := below_call Dr hbx
        replace hc := cell_below hbx hc
        replace hc2 := cell_below hbx hc2
        replace hB := below_call hB hbx
        refine hK.out _ _ (by (try dsimp only); (exact ⟨hc, hc2⟩)) (fun hHeld => ?_)
        clear hK K
        try simp only [Act.put, List.getElem_toArray, List.getElem_cons_succ, List.getElem_cons_zero, List.setIfInBounds_toArray, List.set_cons_zero, List.set_cons_succ]
        refine Held.take (k := 22) (i := 22) (v := ?vsb22) nossb okksb_22 sizsb (by kernel_rfl) rfl (fun _ _ _ h => h) (Or.inl ⟨by kernel_rfl, ?hysb22⟩) (by assumption) ?restsb22
        case hysb22 => (intro w hSw; (try dsimp only at hSw); go_simp; (try (first | with_reducible rfl | rw [if_neg (by omega)])))
        try simp only [Act.put, List.getElem_toArray, List.getElem_cons_succ, List.getElem_cons_zero, List.setIfInBounds_toArray, List.set_cons_zero, List.set_cons_succ]
        refine Held.take (k := 23) (i := 23) (v := ?vsb23) nossb okksb_23 sizsb (by kernel_rfl) rfl (fun _ _ _ h => h) (Or.inl ⟨by kernel_rfl, ?hysb23⟩) (by assumption) ?restsb23
        case hysb23 => (intro w hSw; (try dsimp only at hSw); go_simp; (try (first | with_reducible rfl | rw [if_neg (by omega)])))
        try simp only [Act.put, List.getElem_toArray, List.getElem_cons_succ, List.getElem_cons_zero, List.setIfInBounds_toArray, List.set_cons_zero, List.set_cons_succ]
        refine Held.take (k := 24) (i := 24) (v := ?vsb24) nossb okksb_24 sizsb (by kernel_rfl) rfl (fun _ _ _ h => h) (Or.inl ⟨by kernel_rfl, ?hysb24⟩) (by assumption) ?restsb24
        case hysb24 => (intro w hSw; (try dsimp only at hSw); go_simp; (try (first | with_reducible rfl | rw [if_neg (by omega)])))
        try simp only [Act.put, List.getElem_toArray, List.getElem_cons_succ, List.getElem_cons_zero, List.setIfInBounds_toArray, List.set_cons_zero, List.set_cons_succ]
        refine wpAnyH_done (by kernel_rfl) ?_ _
        clear hc2
        by_cases huo : u = o
        · have e1 : (u.toList == o.toList) = true := by rw [huo]; exact beq_self_eq_true _
          have HT2 : Hid (amongL (ws.take (i + 1)) o = true) := by show _ = _; rw [HSN.out, decide_eq_true huo, Bool.or_true]
          clear huo Dr
          cases am <;> go_wp2
          all_goals exact ⟨⟨i + 1, true, by go_num, rfl, by omega, HT2, hB⟩, by simp [intOf]; omega⟩
        · have e1 : (u.toList == o.toList) = false := by simpa [toList_inj'] using huo
          have HT2 : Hid (amongL (ws.take (i + 1)) o = am) := by show _ = _; rw [HSN.out, decide_eq_false huo, Bool.or_false]
          clear huo Dr
          cases am <;> go_wp2
          all_goals exact ⟨⟨i + 1, _, by go_num, rfl, by omega, HT2, hB⟩, by simp [intOf]; omega⟩
    · have hin : i = ws.length := by omega
      subst hin
      have HAM2 : Hid (seesRo l o q = am) := by
        show _ = _
        have := HT.out
        rw [List.take_of_length_le (Nat.le_refl _), HAM.out] at this
        exact this
      replace D := below_call D hB
      clear hB
      go_wp2_with fail
      with_reducible refine (Of8_is n c A l _ (hl.below D) q os hn HO).mono ?_
      rintro e w4 ⟨v4, rfl, r4, b4⟩
      replace D := below_call D b4
      clear b4
      obtain ⟨A4, c4, rfl⟩ := r4.form8 _ rfl
      go_wp2
      go_loopw [10, 12] (fun v10 v12 wr => ∃ (k m : Nat), v12 = .int .i64 k ∧ v10 = .int .i64 m ∧ k ≤ os.length ∧ m ≤ k ∧ Hid (((os.take k).filter (fun w => seesRo l w q)).length = m) ∧ Below w4.heap.size w4 wr) (fun _ v12 _ => (os.length - intOf v12).toNat)
      case atStart => exact ⟨0, 0, rfl, rfl, Nat.zero_le _, Nat.le_refl _, rfl, Below.refl _ _⟩
      case round =>
        obtain ⟨k, m, rfl, rfl, hk, hmk, HT, hB⟩ := hrel
        by_cases hlt : k < os.length
        · obtain ⟨ad, rfl, hc⟩ := (r4.below hB).get1 (f := Value.string) k hlt
          have htk : ((os.take (k + 1)).filter (fun w => seesRo l w q)).length = m + (if seesRo l os[k] q then 1 else 0) := by
            rw [List.take_succ_eq_append_getElem hlt, List.filter_append, List.length_append, HT.out, List.filter_cons]
            split <;> rfl
          obtain ⟨u, hu⟩ : ∃ u, os[k] = u := ⟨_, rfl⟩
          rw [hu] at hc htk
          obtain ⟨b, hb⟩ : ∃ b, seesRo l u q = b := ⟨_, rfl⟩
          rw [hb] at htk
          have HB := Lib.hid hb
          have HTK := Lib.hid htk
          clear hu hb htk HT
          go_wp2_with fail
          with_reducible refine (Sees8_is n c A l _ (hl.below (below_call D hB)) u q b HB).mono ?_
          rintro e w5 ⟨rfl, b5⟩
          replace hB := below_call hB b5
          clear b5 hc
          cases b with
          | true =>
            have HT2 : Hid (((os.take (k + 1)).filter (fun w => seesRo l w q)).length = m + 1) := HTK.out
            go_wp2
            exact ⟨⟨k + 1, m + 1, by go_num, by go_num, by omega, by omega, HT2, hB⟩, by simp [intOf]; omega⟩
          | false =>
            have HT2 : Hid (((os.take (k + 1)).filter (fun w => seesRo l w q)).length = m) := HTK.out
            go_wp2
            exact ⟨⟨k + 1, m, by go_num, rfl, by omega, by omega, HT2, hB⟩, by simp [intOf]; omega⟩
        · have hkl : k = os.length := by omega
          subst hkl
          have hmw : m = ws.length := by
            have := HT.out
            rw [List.take_of_length_le (Nat.le_refl _), HWO.out] at this
            exact this.symm
          subst hmw
          replace D := below_call D hB
          clear HT hB
          go_wp2_with fail
          with_reducible refine (Sees8_is n c A l _ (hl.below D) o q am HAM2).mono ?_
          rintro e w5 ⟨rfl, b5⟩
          replace D := below_call D b5
          clear b5
          go_wp2_with fail
          with_reducible refine (live08 _).mono ?_
          rintro e w6 ⟨rfl, b6⟩
          replace D := below_call D b6
          clear b6
          go_wp2
          go_ret
          exact ⟨rfl, D⟩
end Go.Proofs.Ytpmafghknafhaaa
