/-
Layer 5: the walk of DigestSets.
-/
import Derived.Test.YtcopiimflloooaaDigR
set_option linter.unusedVariables false
set_option linter.unusedSimpArgs false
namespace Go.Proofs.Ytcopiimflloooaa
open Go.RowKit
open Sp
theorem mayT_sz {l : List Sn} (h : mayT l = true) : SzT l := fun s hs => by
  have h2 := ((mayT_iff l).1 h).2.1 s hs
  rw [rowOk_iff] at h2
  have h3 := (name_le _ h2.1).2
  have h4 := h2.2
  unfold mayV at h4
  simp only [Bool.and_eq_true, decide_eq_true_eq] at h4
  omega
noncomputable def opss : Array Oper := Held.inBody 5 Try.f10.body
def ords : List Nat := [0, 1, 3, 4, 2, 5, 6, 7, 8, 9, 10, 11, 12, 13, 14, 15, 16, 17, 18, 19, 21, 22, 20, 23, 24, 25, 26, 27, 28, 29]
set_option maxRecDepth 100000 in
theorem sizs : opss.size = 30 := by kernel_rfl
set_option maxRecDepth 100000 in
theorem noss : Region.noSelect opss = true := by kernel_rfl
set_option maxRecDepth 100000 in
theorem okks_0 : Held.okAt opss ords 0 = true := by kernel_rfl
set_option maxRecDepth 100000 in
theorem okks_1 : Held.okAt opss ords 1 = true := by kernel_rfl
set_option maxRecDepth 100000 in
theorem okks_2 : Held.okAt opss ords 2 = true := by kernel_rfl
set_option maxRecDepth 100000 in
theorem okks_3 : Held.okAt opss ords 3 = true := by kernel_rfl
set_option maxRecDepth 100000 in
theorem okks_7 : Held.okAt opss ords 7 = true := by kernel_rfl
set_option maxRecDepth 100000 in
theorem okks_8 : Held.okAt opss ords 8 = true := by kernel_rfl
set_option maxRecDepth 100000 in
theorem okks_9 : Held.okAt opss ords 9 = true := by kernel_rfl
set_option maxRecDepth 100000 in
theorem okks_10 : Held.okAt opss ords 10 = true := by kernel_rfl
set_option maxRecDepth 100000 in
theorem okks_11 : Held.okAt opss ords 11 = true := by kernel_rfl
set_option maxRecDepth 100000 in
theorem okks_12 : Held.okAt opss ords 12 = true := by kernel_rfl
set_option maxRecDepth 100000 in
theorem okks_13 : Held.okAt opss ords 13 = true := by kernel_rfl
set_option maxRecDepth 100000 in
theorem okks_14 : Held.okAt opss ords 14 = true := by kernel_rfl
set_option maxRecDepth 100000 in
theorem okks_15 : Held.okAt opss ords 15 = true := by kernel_rfl
set_option maxRecDepth 100000 in
theorem okks_16 : Held.okAt opss ords 16 = true := by kernel_rfl
set_option maxRecDepth 100000 in
theorem okks_17 : Held.okAt opss ords 17 = true := by kernel_rfl
set_option maxRecDepth 100000 in
theorem okks_18 : Held.okAt opss ords 18 = true := by kernel_rfl
set_option maxRecDepth 100000 in
theorem okks_19 : Held.okAt opss ords 19 = true := by kernel_rfl
set_option maxRecDepth 100000 in
theorem okks_20 : Held.okAt opss ords 20 = true := by kernel_rfl
set_option maxRecDepth 100000 in
theorem okks_21 : Held.okAt opss ords 21 = true := by kernel_rfl
set_option maxRecDepth 100000 in
theorem okks_25 : Held.okAt opss ords 25 = true := by kernel_rfl
set_option maxRecDepth 100000 in
theorem okks_26 : Held.okAt opss ords 26 = true := by kernel_rfl
set_option maxRecDepth 100000 in
theorem okks_28 : Held.okAt opss ords 28 = true := by kernel_rfl
set_option maxRecDepth 100000 in
theorem okks_29 : Held.okAt opss ords 29 = true := by kernel_rfl
set_option maxRecDepth 100000 in
theorem rdys_4 : Region.ready .any opss (Held.lst 30 ords 4) = [2] := by kernel_rfl
set_option maxRecDepth 100000 in
theorem rdys_5 : Region.ready .any opss (Held.lst 30 ords 5) = [5] := by kernel_rfl
set_option maxRecDepth 100000 in
theorem rdys_6 : Region.ready .any opss (Held.lst 30 ords 6) = [6] := by kernel_rfl
set_option maxRecDepth 100000 in
theorem rdys_22 : Region.ready .any opss (Held.lst 30 ords 22) = [20] := by kernel_rfl
set_option maxRecDepth 100000 in
theorem rdys_23 : Region.ready .any opss (Held.lst 30 ords 23) = [23] := by kernel_rfl
set_option maxRecDepth 100000 in
theorem rdys_24 : Region.ready .any opss (Held.lst 30 ords 24) = [24] := by kernel_rfl
set_option maxRecDepth 100000 in
theorem rdys_27 : Region.ready .any opss (Held.lst 30 ords 27) = [27] := by kernel_rfl
set_option maxHeartbeats 16000000 in
set_option maxRecDepth 100000 in
theorem sets5_walk (n c : Nat) (A : Option Addr) (l : List Sn) (n2 c2 : Nat) (A2 : Option Addr) (m : List Sn) (s : Ch) (w : World) (hl : Row enSn 5 w (.slice A n c) l) (hz : SzN l) (hm : Row enSn 5 w (.slice A2 n2 c2) m) (hz2 : SzN m) (hq : s.c.size ≤ 9223372036854775807 ∧ s.v.2.2.2.size ≤ 9223372036854775807) :
    Calls Try.prog 10 #[.slice A n c, .slice A2 n2 c2, vaCh s] w fun e w' => e = .returned (.bool true) ∧ Below w.heap.size w w' := by
  obtain ⟨q, on, x, y, z, t⟩ := s
  simp only at hq
  have EA := Lib.hid hl.len_eq
  have EB := Lib.hid hm.len_eq
  have D := below_box (w := w) (bxCh q on x y z t)
  have hb := heap_alloc_new w (bxCh q on x y z t)
  cases h : fewT l with
  | false =>
    have H := Lib.hid h
    clear h
    go_enter Try.func10, Try.ntmps10
    go_wp2_with fail
    with_reducible refine (few5_is n c A l _ (hl.below D) false hz H).mono ?_
    rintro e w1 ⟨rfl, b1⟩
    replace hb := hcall hb b1
    replace D := below_call D b1
    clear b1
    go_wp2_with fail
    with_reducible refine (live05 _).mono ?_
    rintro e w2 ⟨rfl, b2⟩
    replace hb := hcall hb b2
    replace D := below_call D b2
    clear b2
    go_wp2
    go_ret
    exact ⟨rfl, D⟩
  | true =>
  obtain ⟨hs, h50⟩ := fewT_sz h
  have hn : n ≤ 1000 := by have := EA.out; omega
  have H := Lib.hid h
  clear h h50
  cases h : fewT m with
  | false =>
    have H2 := Lib.hid h
    clear h
    go_enter Try.func10, Try.ntmps10
    go_wp2_with fail
    with_reducible refine (few5_is n c A l _ (hl.below D) true hz H).mono ?_
    rintro e w1 ⟨rfl, b1⟩
    replace hb := hcall hb b1
    replace D := below_call D b1
    clear b1
    go_wp2_with fail
    with_reducible refine (few5_is n2 c2 A2 m _ (hm.below D) false hz2 H2).mono ?_
    rintro e w2 ⟨rfl, b2⟩
    replace hb := hcall hb b2
    replace D := below_call D b2
    clear b2
    go_wp2_with fail
    with_reducible refine (live05 _).mono ?_
    rintro e w3 ⟨rfl, b3⟩
    replace hb := hcall hb b3
    replace D := below_call D b3
    clear b3
    go_wp2
    go_ret
    exact ⟨rfl, D⟩
  | true =>
  obtain ⟨hs2, h50⟩ := fewT_sz h
  have hn2 : n2 ≤ 1000 := by have := EB.out; omega
  have H2 := Lib.hid h
  clear h h50
  by_cases hqs : (60 : Int) < (q.size : Int)
  · go_enter Try.func10, Try.ntmps10
    go_wp2_with fail
    with_reducible refine (few5_is n c A l _ (hl.below D) true hz H).mono ?_
    rintro e w1 ⟨rfl, b1⟩
    replace hb := hcall hb b1
    replace D := below_call D b1
    clear b1
    go_wp2_with fail
    with_reducible refine (few5_is n2 c2 A2 m _ (hm.below D) true hz2 H2).mono ?_
    rintro e w2 ⟨rfl, b2⟩
    replace hb := hcall hb b2
    replace D := below_call D b2
    clear b2
    obtain ⟨k0, k1, k2, k3, k4, k5, kz⟩ := cellsCh q on x y z t hb
    go_wp2_with fail
    with_reducible refine (live05 _).mono ?_
    rintro e w3 ⟨rfl, b3⟩
    replace hb := hcall hb b3
    replace D := below_call D b3
    clear b3 k0 k1 k2 k3 k4 k5 kz
    go_wp2
    go_ret
    exact ⟨rfl, D⟩
  have hqs' : (q.size : Int) ≤ 60 := by omega
  by_cases hts : (100 : Int) < (t.size : Int)
  · go_enter Try.func10, Try.ntmps10
    go_wp2_with fail
    with_reducible refine (few5_is n c A l _ (hl.below D) true hz H).mono ?_
    rintro e w1 ⟨rfl, b1⟩
    replace hb := hcall hb b1
    replace D := below_call D b1
    clear b1
    go_wp2_with fail
    with_reducible refine (few5_is n2 c2 A2 m _ (hm.below D) true hz2 H2).mono ?_
    rintro e w2 ⟨rfl, b2⟩
    replace hb := hcall hb b2
    replace D := below_call D b2
    clear b2
    obtain ⟨k0, k1, k2, k3, k4, k5, kz⟩ := cellsCh q on x y z t hb
    go_wp2_with fail
    with_reducible refine (live05 _).mono ?_
    rintro e w3 ⟨rfl, b3⟩
    replace hb := hcall hb b3
    replace D := below_call D b3
    clear b3 k0 k1 k2 k3 k4 k5 kz
    go_wp2
    go_ret
    exact ⟨rfl, D⟩
  have hts' : (t.size : Int) ≤ 100 := by omega
  clear hqs hts
  obtain ⟨⟨gx, gy, gz, gt⟩, gb, hg⟩ : ∃ v b, getT l q = (v, b) := ⟨_, _, rfl⟩
  obtain ⟨r, hr⟩ : ∃ r, setT l ⟨q, on, x, y, z, t⟩ = r := ⟨_, rfl⟩
  obtain ⟨ch, hch⟩ : ∃ r, changesT l m = r := ⟨_, rfl⟩
  have HG := Lib.hid hg
  have HR := Lib.hid hr
  have HC := Lib.hid hch
  clear hg hr hch
  go_enter Try.func10, Try.ntmps10
  go_wp2_with fail
  with_reducible refine (few5_is n c A l _ (hl.below D) true hz H).mono ?_
  rintro e w1 ⟨rfl, b1⟩
  replace hb := hcall hb b1
  replace D := below_call D b1
  clear b1
  go_wp2_with fail
  with_reducible refine (few5_is n2 c2 A2 m _ (hm.below D) true hz2 H2).mono ?_
  rintro e w2 ⟨rfl, b2⟩
  replace hb := hcall hb b2
  replace D := below_call D b2
  clear b2
  obtain ⟨k0, k1, k2, k3, k4, k5, kz⟩ := cellsCh q on x y z t hb
  go_wp2_with fail
  with_reducible refine (getT_is n c A l q _ gx gy gz gt gb (hl.below D) HG).mono ?_
  rintro e w3 ⟨rfl, b3⟩
  replace hb := hcall hb b3
  replace D := below_call D b3
  clear b3 k0 k1 k2 k3 k4 k5 kz
  have hv := heap_alloc_new w3 (bxV gx gy gz gt)
  replace hb := halloc hb (bxV gx gy gz gt)
  replace D := below_alloc0 D (bxV gx gy gz gt)
  obtain ⟨k0, k1, k2, k3, k4, k5, kz⟩ := cellsCh q on x y z t hb
  go_wp2_with fail
  with_reducible refine (refGetT_is n c A l q _ gx gy gz gt gb (hl.below D) HG).mono ?_
  rintro e w4 ⟨rfl, b4⟩
  replace hb := hcall hb b4
  replace hv := hcall hv b4
  replace D := below_call D b4
  clear b4 k0 k1 k2 k3 k4 k5 kz
  have hu := heap_alloc_new w4 (bxV gx gy gz gt)
  replace hb := halloc hb (bxV gx gy gz gt)
  replace hv := halloc hv (bxV gx gy gz gt)
  replace D := below_alloc0 D (bxV gx gy gz gt)
  obtain ⟨k0, k1, k2, k3, k4, k5, kz⟩ := cellsCh q on x y z t hb
  obtain ⟨v0, v1, v2, v3⟩ := cells5V hv
  obtain ⟨u0, u1, u2, u3⟩ := cells5V hu
  have hcv := eqlVl gx gy gz gt gx gy gz gt
  rw [eqvVl, decide_eq_true rfl] at hcv
  have D1 : Below w.heap.size w (w4.alloc (bxV gx gy gz gt)).drew := D.drew
  clear D hb hv hu kz
  go_wp2_with fail
  refine Held.start (ops := opss) (S := fun w' => w'.cell? ⟨w.heap.size, 0, none⟩ = some (.string q) ∧ w'.cell? ⟨w.heap.size, 1, none⟩ = some (.bool on) ∧ w'.cell? ⟨w.heap.size, 2, none⟩ = some (.int .i64 x) ∧ w'.cell? ⟨w.heap.size, 3, none⟩ = some (.int .i64 y) ∧ w'.cell? ⟨w.heap.size, 4, none⟩ = some (.int .i64 z) ∧ w'.cell? ⟨w.heap.size, 5, none⟩ = some (.string t) ∧ w'.cell? ⟨w3.heap.size, 0, none⟩ = some (.int .i64 gx) ∧ w'.cell? ⟨w3.heap.size, 1, none⟩ = some (.int .i64 gy) ∧ w'.cell? ⟨w3.heap.size, 2, none⟩ = some (.int .i64 gz) ∧ w'.cell? ⟨w3.heap.size, 3, none⟩ = some (.string gt) ∧ w'.cell? ⟨w4.heap.size, 0, none⟩ = some (.int .i64 gx) ∧ w'.cell? ⟨w4.heap.size, 1, none⟩ = some (.int .i64 gy) ∧ w'.cell? ⟨w4.heap.size, 2, none⟩ = some (.int .i64 gz) ∧ w'.cell? ⟨w4.heap.size, 3, none⟩ = some (.string gt)) ords 30 (by kernel_rfl) sizs (by kernel_rfl) ⟨k0, k1, k2, k3, k4, k5, v0, v1, v2, v3, u0, u1, u2, u3⟩ (fun hHeld => ?_)
  refine Held.take (k := 0) (i := 0) (v := ?vs0) noss okks_0 sizs (by kernel_rfl) rfl (fun _ _ _ h => h) (Or.inl ⟨by kernel_rfl, ?hys0⟩) (by assumption) ?rests0
  case hys0 => (intro w hSw; (try dsimp only at hSw); go_simp; (try (first | with_reducible rfl | rw [if_neg (by omega)])))
  try simp only [Act.put, List.getElem_toArray, List.getElem_cons_succ, List.getElem_cons_zero, List.setIfInBounds_toArray, List.set_cons_zero, List.set_cons_succ]
  refine Held.take (k := 1) (i := 1) (v := ?vs1) noss okks_1 sizs (by kernel_rfl) rfl (fun _ _ _ h => h) (Or.inl ⟨by kernel_rfl, ?hys1⟩) (by assumption) ?rests1
  case hys1 => (intro w hSw; (try dsimp only at hSw); go_simp; (try (first | with_reducible rfl | rw [if_neg (by omega)])))
  try simp only [Act.put, List.getElem_toArray, List.getElem_cons_succ, List.getElem_cons_zero, List.setIfInBounds_toArray, List.set_cons_zero, List.set_cons_succ]
  refine Held.take (k := 2) (i := 3) (v := ?vs2) noss okks_2 sizs (by kernel_rfl) rfl (fun _ _ _ h => h) (Or.inl ⟨by kernel_rfl, ?hys2⟩) (by assumption) ?rests2
  case hys2 => (intro w hSw; (try dsimp only at hSw); go_simp; (try (first | with_reducible rfl | rw [if_neg (by omega)])))
  try simp only [Act.put, List.getElem_toArray, List.getElem_cons_succ, List.getElem_cons_zero, List.setIfInBounds_toArray, List.set_cons_zero, List.set_cons_succ]
  refine Held.take (k := 3) (i := 4) (v := ?vs3) noss okks_3 sizs (by kernel_rfl) rfl (fun _ _ _ h => h) (Or.inl ⟨by kernel_rfl, ?hys3⟩) (by assumption) ?rests3
  case hys3 => (intro w hSw; (try dsimp only at hSw); go_simp; (try (first | with_reducible rfl | rw [if_neg (by omega)])))
  try simp only [Act.put, List.getElem_toArray, List.getElem_cons_succ, List.getElem_cons_zero, List.setIfInBounds_toArray, List.set_cons_zero, List.set_cons_succ]
  refine Held.only (k := 4) (i := 2) rdys_4 (by kernel_rfl) rfl (by kernel_rfl) (fun K hK => ?_)
  go_simp
  go_at_call 44
  with_reducible refine (Set5_is n c A l _ (hl.below D1) q on x y z t r hn HR).mono ?_
  rintro e wa ⟨va, rfl, ra, hbx⟩
  obtain ⟨Aa, ca, rfl⟩ := ra.form5 _ rfl
  replace k0 := cell_below hbx k0
  replace k1 := cell_below hbx k1
  replace k2 := cell_below hbx k2
  replace k3 := cell_below hbx k3
  replace k4 := cell_below hbx k4
  replace k5 := cell_below hbx k5
  replace v0 := cell_below hbx v0
  replace v1 := cell_below hbx v1
  replace v2 := cell_below hbx v2
  replace v3 := cell_below hbx v3
  replace u0 := cell_below hbx u0
  replace u1 := cell_below hbx u1
  replace u2 := cell_below hbx u2
  replace u3 := cell_below hbx u3
  replace D1 := below_call D1 hbx
  refine hK.out _ _ (by (try dsimp only); (exact ⟨k0, k1, k2, k3, k4, k5, v0, v1, v2, v3, u0, u1, u2, u3⟩)) (fun hHeld => ?_)
  clear hK K
  try simp only [Act.put, List.getElem_toArray, List.getElem_cons_succ, List.getElem_cons_zero, List.setIfInBounds_toArray, List.set_cons_zero, List.set_cons_succ]
  refine Held.only (k := 5) (i := 5) rdys_5 (by kernel_rfl) rfl (by kernel_rfl) (fun K hK => ?_)
  go_simp
  go_at_call 45
  with_reducible refine (refSet5_is n c A l _ (hl.below D1) q on x y z t r hn HR).mono ?_
  rintro e wb ⟨vb, rfl, rb, hbx⟩
  obtain ⟨Ab, cb, rfl⟩ := rb.form5 _ rfl
  replace k0 := cell_below hbx k0
  replace k1 := cell_below hbx k1
  replace k2 := cell_below hbx k2
  replace k3 := cell_below hbx k3
  replace k4 := cell_below hbx k4
  replace k5 := cell_below hbx k5
  replace v0 := cell_below hbx v0
  replace v1 := cell_below hbx v1
  replace v2 := cell_below hbx v2
  replace v3 := cell_below hbx v3
  replace u0 := cell_below hbx u0
  replace u1 := cell_below hbx u1
  replace u2 := cell_below hbx u2
  replace u3 := cell_below hbx u3
  replace ra := ra.below hbx
  replace D1 := below_call D1 hbx
  refine hK.out _ _ (by (try dsimp only); (exact ⟨k0, k1, k2, k3, k4, k5, v0, v1, v2, v3, u0, u1, u2, u3⟩)) (fun hHeld => ?_)
  clear hK K
  try simp only [Act.put, List.getElem_toArray, List.getElem_cons_succ, List.getElem_cons_zero, List.setIfInBounds_toArray, List.set_cons_zero, List.set_cons_succ]
  refine Held.only (k := 6) (i := 6) rdys_6 (by kernel_rfl) rfl (by kernel_rfl) (fun K hK => ?_)
  go_simp
  go_at_call 41
  with_reducible refine (Same5_is _ _ _ r _ ra _ _ _ r rb true (Lib.hid (decide_eq_true rfl))).mono ?_
  rintro e wc ⟨rfl, hbx⟩
  replace k0 := cell_below hbx k0
  replace k1 := cell_below hbx k1
  replace k2 := cell_below hbx k2
  replace k3 := cell_below hbx k3
  replace k4 := cell_below hbx k4
  replace k5 := cell_below hbx k5
  replace v0 := cell_below hbx v0
  replace v1 := cell_below hbx v1
  replace v2 := cell_below hbx v2
  replace v3 := cell_below hbx v3
  replace u0 := cell_below hbx u0
  replace u1 := cell_below hbx u1
  replace u2 := cell_below hbx u2
  replace u3 := cell_below hbx u3
  replace D1 := below_call D1 hbx
  clear ra rb
  refine hK.out _ _ (by (try dsimp only); (exact ⟨k0, k1, k2, k3, k4, k5, v0, v1, v2, v3, u0, u1, u2, u3⟩)) (fun hHeld => ?_)
  clear hK K
  try simp only [Act.put, List.getElem_toArray, List.getElem_cons_succ, List.getElem_cons_zero, List.setIfInBounds_toArray, List.set_cons_zero, List.set_cons_succ]
  refine Held.take (k := 7) (i := 7) (v := ?vs7) noss okks_7 sizs (by kernel_rfl) rfl (fun _ _ _ h => h) (Or.inl ⟨by kernel_rfl, ?hys7⟩) (by assumption) ?rests7
  case hys7 => (intro w hSw; (try dsimp only at hSw); go_simp; (try (first | with_reducible rfl | rw [if_neg (by omega)])))
  try simp only [Act.put, List.getElem_toArray, List.getElem_cons_succ, List.getElem_cons_zero, List.setIfInBounds_toArray, List.set_cons_zero, List.set_cons_succ]
  refine Held.take (k := 8) (i := 8) (v := ?vs8) noss okks_8 sizs (by kernel_rfl) rfl (fun _ _ _ h => h) (Or.inl ⟨by kernel_rfl, ?hys8⟩) (by assumption) ?rests8
  case hys8 => (intro w hSw; (try dsimp only at hSw); go_simp; (try (first | with_reducible rfl | rw [if_neg (by omega)])))
  try simp only [Act.put, List.getElem_toArray, List.getElem_cons_succ, List.getElem_cons_zero, List.setIfInBounds_toArray, List.set_cons_zero, List.set_cons_succ]
  refine Held.take (k := 9) (i := 9) (v := ?vs9) noss okks_9 sizs (by kernel_rfl) rfl (fun _ _ _ h => h) (Or.inl ⟨by kernel_rfl, ?hys9⟩) (by assumption) ?rests9
  case hys9 => (intro w hSw; (try dsimp only at hSw); go_simp; (try (first | with_reducible rfl | rw [if_neg (by omega)])))
  try simp only [Act.put, List.getElem_toArray, List.getElem_cons_succ, List.getElem_cons_zero, List.setIfInBounds_toArray, List.set_cons_zero, List.set_cons_succ]
  refine Held.take (k := 10) (i := 10) (v := ?vs10) noss okks_10 sizs (by kernel_rfl) rfl (fun _ _ _ h => h) (Or.inl ⟨by kernel_rfl, ?hys10⟩) (by assumption) ?rests10
  case hys10 => (intro w hSw; (try dsimp only at hSw); go_simp; (try (first | with_reducible rfl | rw [if_neg (by omega)])))
  try simp only [Act.put, List.getElem_toArray, List.getElem_cons_succ, List.getElem_cons_zero, List.setIfInBounds_toArray, List.set_cons_zero, List.set_cons_succ]
  refine Held.take (k := 11) (i := 11) (v := ?vs11) noss okks_11 sizs (by kernel_rfl) rfl (fun _ _ _ h => h) (Or.inl ⟨by kernel_rfl, ?hys11⟩) (by assumption) ?rests11
  case hys11 => (intro w hSw; (try dsimp only at hSw); go_simp; (try (first | with_reducible rfl | rw [if_neg (by omega)])))
  try simp only [Act.put, List.getElem_toArray, List.getElem_cons_succ, List.getElem_cons_zero, List.setIfInBounds_toArray, List.set_cons_zero, List.set_cons_succ]
  refine Held.take (k := 12) (i := 12) (v := ?vs12) noss okks_12 sizs (by kernel_rfl) rfl (fun _ _ _ h => h) (Or.inl ⟨by kernel_rfl, ?hys12⟩) (by assumption) ?rests12
  case hys12 => (intro w hSw; (try dsimp only at hSw); go_simp; (try (first | with_reducible rfl | rw [if_neg (by omega)])))
  try simp only [Act.put, List.getElem_toArray, List.getElem_cons_succ, List.getElem_cons_zero, List.setIfInBounds_toArray, List.set_cons_zero, List.set_cons_succ]
  refine Held.take (k := 13) (i := 13) (v := ?vs13) noss okks_13 sizs (by kernel_rfl) rfl (fun _ _ _ h => h) (Or.inl ⟨by kernel_rfl, ?hys13⟩) (by assumption) ?rests13
  case hys13 => (intro w hSw; (try dsimp only at hSw); go_simp; (try (first | with_reducible rfl | rw [if_neg (by omega)])))
  try simp only [Act.put, List.getElem_toArray, List.getElem_cons_succ, List.getElem_cons_zero, List.setIfInBounds_toArray, List.set_cons_zero, List.set_cons_succ]
  refine Held.take (k := 14) (i := 14) (v := ?vs14) noss okks_14 sizs (by kernel_rfl) rfl (fun _ _ _ h => h) (Or.inl ⟨by kernel_rfl, ?hys14⟩) (by assumption) ?rests14
  case hys14 => (intro w hSw; (try dsimp only at hSw); go_simp; (try (first | with_reducible rfl | rw [if_neg (by omega)])))
  try simp only [Act.put, List.getElem_toArray, List.getElem_cons_succ, List.getElem_cons_zero, List.setIfInBounds_toArray, List.set_cons_zero, List.set_cons_succ]
  refine Held.take (k := 15) (i := 15) (v := ?vs15) noss okks_15 sizs (by kernel_rfl) rfl (fun _ _ _ h => h) (Or.inl ⟨by kernel_rfl, ?hys15⟩) (by assumption) ?rests15
  case hys15 => (intro w hSw; (try dsimp only at hSw); go_simp; (try (first | with_reducible rfl | rw [if_neg (by omega)])))
  try simp only [Act.put, List.getElem_toArray, List.getElem_cons_succ, List.getElem_cons_zero, List.setIfInBounds_toArray, List.set_cons_zero, List.set_cons_succ]
  refine Held.take (k := 16) (i := 16) (v := ?vs16) noss okks_16 sizs (by kernel_rfl) rfl (fun _ _ _ h => h) (Or.inl ⟨by kernel_rfl, ?hys16⟩) (by assumption) ?rests16
  case hys16 => (intro w hSw; (try dsimp only at hSw); go_simp; (try (first | with_reducible rfl | rw [if_neg (by omega)])))
  try simp only [Act.put, List.getElem_toArray, List.getElem_cons_succ, List.getElem_cons_zero, List.setIfInBounds_toArray, List.set_cons_zero, List.set_cons_succ]
  refine Held.take (k := 17) (i := 17) (v := ?vs17) noss okks_17 sizs (by kernel_rfl) rfl (fun _ _ _ h => h) (Or.inl ⟨by kernel_rfl, ?hys17⟩) (by assumption) ?rests17
  case hys17 => (intro w hSw; (try dsimp only at hSw); go_simp; (try (first | with_reducible rfl | rw [if_neg (by omega)])))
  try simp only [Act.put, List.getElem_toArray, List.getElem_cons_succ, List.getElem_cons_zero, List.setIfInBounds_toArray, List.set_cons_zero, List.set_cons_succ]
  refine Held.take (k := 18) (i := 18) (v := ?vs18) noss okks_18 sizs (by kernel_rfl) rfl (fun _ _ _ h => h) (Or.inl ⟨by kernel_rfl, ?hys18⟩) (by assumption) ?rests18
  case hys18 => (intro w hSw; (try dsimp only at hSw); go_simp; (try (first | with_reducible rfl | rw [if_neg (by omega)])))
  try simp only [Act.put, List.getElem_toArray, List.getElem_cons_succ, List.getElem_cons_zero, List.setIfInBounds_toArray, List.set_cons_zero, List.set_cons_succ]
  refine Held.take (k := 19) (i := 19) (v := ?vs19) noss okks_19 sizs (by kernel_rfl) rfl (fun _ _ _ h => h) (Or.inl ⟨by kernel_rfl, ?hys19⟩) (by assumption) ?rests19
  case hys19 => (intro w hSw; (try dsimp only at hSw); go_simp; (try (first | with_reducible rfl | rw [if_neg (by omega)])))
  try simp only [Act.put, List.getElem_toArray, List.getElem_cons_succ, List.getElem_cons_zero, List.setIfInBounds_toArray, List.set_cons_zero, List.set_cons_succ]
  refine Held.take (k := 20) (i := 21) (v := ?vs20) noss okks_20 sizs (by kernel_rfl) rfl (fun _ _ _ h => h) (Or.inl ⟨by kernel_rfl, ?hys20⟩) (by assumption) ?rests20
  case hys20 => (intro w hSw; (try dsimp only at hSw); go_simp; (try (first | with_reducible rfl | rw [if_neg (by omega)])))
  try simp only [Act.put, List.getElem_toArray, List.getElem_cons_succ, List.getElem_cons_zero, List.setIfInBounds_toArray, List.set_cons_zero, List.set_cons_succ]
  refine Held.take (k := 21) (i := 22) (v := ?vs21) noss okks_21 sizs (by kernel_rfl) rfl (fun _ _ _ h => h) (Or.inl ⟨by kernel_rfl, ?hys21⟩) (by assumption) ?rests21
  case hys21 => (intro w hSw; (try dsimp only at hSw); go_simp; (try (first | with_reducible rfl | rw [if_neg (by omega)])))
  try simp only [Act.put, List.getElem_toArray, List.getElem_cons_succ, List.getElem_cons_zero, List.setIfInBounds_toArray, List.set_cons_zero, List.set_cons_succ]
  refine Held.only (k := 22) (i := 20) rdys_22 (by kernel_rfl) rfl (by kernel_rfl) (fun K hK => ?_)
  go_simp
  go_at_call 47
  with_reducible refine (Changes5_is n c A l _ (hl.below D1) n2 c2 A2 m (hm.below D1) ch hn hn2 HC).mono ?_
  rintro e wd ⟨vd, rfl, rd, hbx⟩
  obtain ⟨Ad, cd, rfl⟩ := rd.form5 _ rfl
  replace k0 := cell_below hbx k0
  replace k1 := cell_below hbx k1
  replace k2 := cell_below hbx k2
  replace k3 := cell_below hbx k3
  replace k4 := cell_below hbx k4
  replace k5 := cell_below hbx k5
  replace v0 := cell_below hbx v0
  replace v1 := cell_below hbx v1
  replace v2 := cell_below hbx v2
  replace v3 := cell_below hbx v3
  replace u0 := cell_below hbx u0
  replace u1 := cell_below hbx u1
  replace u2 := cell_below hbx u2
  replace u3 := cell_below hbx u3
  replace D1 := below_call D1 hbx
  refine hK.out _ _ (by (try dsimp only); (exact ⟨k0, k1, k2, k3, k4, k5, v0, v1, v2, v3, u0, u1, u2, u3⟩)) (fun hHeld => ?_)
  clear hK K
  try simp only [Act.put, List.getElem_toArray, List.getElem_cons_succ, List.getElem_cons_zero, List.setIfInBounds_toArray, List.set_cons_zero, List.set_cons_succ]
  refine Held.only (k := 23) (i := 23) rdys_23 (by kernel_rfl) rfl (by kernel_rfl) (fun K hK => ?_)
  go_simp
  go_at_call 48
  with_reducible refine (refChanges5_is n c A l _ (hl.below D1) n2 c2 A2 m (hm.below D1) ch hn hn2 HC).mono ?_
  rintro e we ⟨ve, rfl, re, hbx⟩
  obtain ⟨Ae, ce, rfl⟩ := re.form5 _ rfl
  replace k0 := cell_below hbx k0
  replace k1 := cell_below hbx k1
  replace k2 := cell_below hbx k2
  replace k3 := cell_below hbx k3
  replace k4 := cell_below hbx k4
  replace k5 := cell_below hbx k5
  replace v0 := cell_below hbx v0
  replace v1 := cell_below hbx v1
  replace v2 := cell_below hbx v2
  replace v3 := cell_below hbx v3
  replace u0 := cell_below hbx u0
  replace u1 := cell_below hbx u1
  replace u2 := cell_below hbx u2
  replace u3 := cell_below hbx u3
  replace rd := rd.below hbx
  replace D1 := below_call D1 hbx
  refine hK.out _ _ (by (try dsimp only); (exact ⟨k0, k1, k2, k3, k4, k5, v0, v1, v2, v3, u0, u1, u2, u3⟩)) (fun hHeld => ?_)
  clear hK K
  try simp only [Act.put, List.getElem_toArray, List.getElem_cons_succ, List.getElem_cons_zero, List.setIfInBounds_toArray, List.set_cons_zero, List.set_cons_succ]
  refine Held.only (k := 24) (i := 24) rdys_24 (by kernel_rfl) rfl (by kernel_rfl) (fun K hK => ?_)
  go_simp
  go_at_call 46
  with_reducible refine (re_ (sameCh _ _ _ _ _ _ ch ch _ rd re) (ret_bool (decide_eq_true rfl))).mono ?_
  rintro e wf ⟨rfl, hbx⟩
  replace k0 := cell_below hbx k0
  replace k1 := cell_below hbx k1
  replace k2 := cell_below hbx k2
  replace k3 := cell_below hbx k3
  replace k4 := cell_below hbx k4
  replace k5 := cell_below hbx k5
  replace v0 := cell_below hbx v0
  replace v1 := cell_below hbx v1
  replace v2 := cell_below hbx v2
  replace v3 := cell_below hbx v3
  replace u0 := cell_below hbx u0
  replace u1 := cell_below hbx u1
  replace u2 := cell_below hbx u2
  replace u3 := cell_below hbx u3
  replace D1 := below_call D1 hbx
  clear rd re
  refine hK.out _ _ (by (try dsimp only); (exact ⟨k0, k1, k2, k3, k4, k5, v0, v1, v2, v3, u0, u1, u2, u3⟩)) (fun hHeld => ?_)
  clear hK K
  try simp only [Act.put, List.getElem_toArray, List.getElem_cons_succ, List.getElem_cons_zero, List.setIfInBounds_toArray, List.set_cons_zero, List.set_cons_succ]
  refine Held.take (k := 25) (i := 25) (v := ?vs25) noss okks_25 sizs (by kernel_rfl) rfl (fun _ _ _ h => h) (Or.inl ⟨by kernel_rfl, ?hys25⟩) (by assumption) ?rests25
  case hys25 => (intro w hSw; (try dsimp only at hSw); go_simp; (try (first | with_reducible rfl | rw [if_neg (by omega)])))
  try simp only [Act.put, List.getElem_toArray, List.getElem_cons_succ, List.getElem_cons_zero, List.setIfInBounds_toArray, List.set_cons_zero, List.set_cons_succ]
  refine Held.take (k := 26) (i := 26) (v := ?vs26) noss okks_26 sizs (by kernel_rfl) rfl (fun _ _ _ h => h) (Or.inl ⟨by kernel_rfl, ?hys26⟩) (by assumption) ?rests26
  case hys26 => (intro w hSw; (try dsimp only at hSw); go_simp; (try (first | with_reducible rfl | rw [if_neg (by omega)])))
  try simp only [Act.put, List.getElem_toArray, List.getElem_cons_succ, List.getElem_cons_zero, List.setIfInBounds_toArray, List.set_cons_zero, List.set_cons_succ]
  refine Held.only (k := 27) (i := 27) rdys_27 (by kernel_rfl) rfl (by kernel_rfl) (fun K hK => ?_)
  go_simp
  go_at_call 32
  with_reducible refine (live05 _).mono ?_
  rintro e wg ⟨rfl, hbx⟩
  replace k0 := cell_below hbx k0
  replace k1 := cell_below hbx k1
  replace k2 := cell_below hbx k2
  replace k3 := cell_below hbx k3
  replace k4 := cell_below hbx k4
  replace k5 := cell_below hbx k5
  replace v0 := cell_below hbx v0
  replace v1 := cell_below hbx v1
  replace v2 := cell_below hbx v2
  replace v3 := cell_below hbx v3
  replace u0 := cell_below hbx u0
  replace u1 := cell_below hbx u1
  replace u2 := cell_below hbx u2
  replace u3 := cell_below hbx u3
  replace D1 := below_call D1 hbx
  refine hK.out _ _ (by (try dsimp only); (exact ⟨k0, k1, k2, k3, k4, k5, v0, v1, v2, v3, u0, u1, u2, u3⟩)) (fun hHeld => ?_)
  clear hK K
  try simp only [Act.put, List.getElem_toArray, List.getElem_cons_succ, List.getElem_cons_zero, List.setIfInBounds_toArray, List.set_cons_zero, List.set_cons_succ]
  refine Held.take (k := 28) (i := 28) (v := ?vs28) noss okks_28 sizs (by kernel_rfl) rfl (fun _ _ _ h => h) (Or.inl ⟨by kernel_rfl, ?hys28⟩) (by assumption) ?rests28
  case hys28 => (intro w hSw; (try dsimp only at hSw); go_simp; (try (first | with_reducible rfl | rw [if_neg (by omega)])))
  try simp only [Act.put, List.getElem_toArray, List.getElem_cons_succ, List.getElem_cons_zero, List.setIfInBounds_toArray, List.set_cons_zero, List.set_cons_succ]
  refine Held.take (k := 29) (i := 29) (v := ?vs29) noss okks_29 sizs (by kernel_rfl) rfl (fun _ _ _ h => h) (Or.inl ⟨by kernel_rfl, ?hys29⟩) (by assumption) ?rests29
  case hys29 => (intro w hSw; (try dsimp only at hSw); go_simp; (try (first | with_reducible rfl | rw [if_neg (by omega)])))
  try simp only [Act.put, List.getElem_toArray, List.getElem_cons_succ, List.getElem_cons_zero, List.setIfInBounds_toArray, List.set_cons_zero, List.set_cons_succ]
  refine wpAnyH_done (by kernel_rfl) ?_ _
  go_wp2
  go_ret
  exact ⟨by first | rfl | kernel_rfl, D1⟩
end Go.Proofs.Ytcopiimflloooaa
