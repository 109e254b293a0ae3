/-
Layer 5: the walk of DigestTwo.
-/
import Derived.Test.YtcopiimflloooaaDigS
set_option linter.unusedVariables false
set_option linter.unusedSimpArgs false
namespace Go.Proofs.Ytcopiimflloooaa
open Go.RowKit
open Sp
noncomputable def opst3 : Array Oper := Held.inBody 3 Try.f14.body
def ordt3 : List Nat := [0, 1, 3, 2, 4, 5]
set_option maxRecDepth 100000 in
theorem sizt3 : opst3.size = 6 := by kernel_rfl
set_option maxRecDepth 100000 in
theorem nost3 : Region.noSelect opst3 = true := by kernel_rfl
set_option maxRecDepth 100000 in
theorem okkt3_0 : Held.okAt opst3 ordt3 0 = true := by kernel_rfl
set_option maxRecDepth 100000 in
theorem okkt3_1 : Held.okAt opst3 ordt3 1 = true := by kernel_rfl
set_option maxRecDepth 100000 in
theorem okkt3_2 : Held.okAt opst3 ordt3 2 = true := by kernel_rfl
set_option maxRecDepth 100000 in
theorem okkt3_5 : Held.okAt opst3 ordt3 5 = true := by kernel_rfl
set_option maxRecDepth 100000 in
theorem rdyt3_3 : Region.ready .any opst3 (Held.lst 6 ordt3 3) = [2] := by kernel_rfl
set_option maxRecDepth 100000 in
theorem rdyt3_4 : Region.ready .any opst3 (Held.lst 6 ordt3 4) = [4] := by kernel_rfl
noncomputable def opst4 : Array Oper := Held.inBody 4 Try.f14.body
def ordt4 : List Nat := [0, 1, 3, 2, 4, 5]
set_option maxRecDepth 100000 in
theorem sizt4 : opst4.size = 6 := by kernel_rfl
set_option maxRecDepth 100000 in
theorem nost4 : Region.noSelect opst4 = true := by kernel_rfl
set_option maxRecDepth 100000 in
theorem okkt4_0 : Held.okAt opst4 ordt4 0 = true := by kernel_rfl
set_option maxRecDepth 100000 in
theorem okkt4_1 : Held.okAt opst4 ordt4 1 = true := by kernel_rfl
set_option maxRecDepth 100000 in
theorem okkt4_2 : Held.okAt opst4 ordt4 2 = true := by kernel_rfl
set_option maxRecDepth 100000 in
theorem okkt4_5 : Held.okAt opst4 ordt4 5 = true := by kernel_rfl
set_option maxRecDepth 100000 in
theorem rdyt4_3 : Region.ready .any opst4 (Held.lst 6 ordt4 3) = [2] := by kernel_rfl
set_option maxRecDepth 100000 in
theorem rdyt4_4 : Region.ready .any opst4 (Held.lst 6 ordt4 4) = [4] := by kernel_rfl
noncomputable def opst5 : Array Oper := Held.inBody 5 Try.f14.body
def ordt5 : List Nat := [0, 1, 3, 5, 6, 2, 4, 7, 8, 9]
set_option maxRecDepth 100000 in
theorem sizt5 : opst5.size = 10 := by kernel_rfl
set_option maxRecDepth 100000 in
theorem nost5 : Region.noSelect opst5 = true := by kernel_rfl
set_option maxRecDepth 100000 in
theorem okkt5_0 : Held.okAt opst5 ordt5 0 = true := by kernel_rfl
set_option maxRecDepth 100000 in
theorem okkt5_1 : Held.okAt opst5 ordt5 1 = true := by kernel_rfl
set_option maxRecDepth 100000 in
theorem okkt5_2 : Held.okAt opst5 ordt5 2 = true := by kernel_rfl
set_option maxRecDepth 100000 in
theorem okkt5_3 : Held.okAt opst5 ordt5 3 = true := by kernel_rfl
set_option maxRecDepth 100000 in
theorem okkt5_4 : Held.okAt opst5 ordt5 4 = true := by kernel_rfl
set_option maxRecDepth 100000 in
theorem okkt5_9 : Held.okAt opst5 ordt5 9 = true := by kernel_rfl
set_option maxRecDepth 100000 in
theorem rdyt5_5 : Region.ready .any opst5 (Held.lst 10 ordt5 5) = [2] := by kernel_rfl
set_option maxRecDepth 100000 in
theorem rdyt5_6 : Region.ready .any opst5 (Held.lst 10 ordt5 6) = [4] := by kernel_rfl
set_option maxRecDepth 100000 in
theorem rdyt5_7 : Region.ready .any opst5 (Held.lst 10 ordt5 7) = [7] := by kernel_rfl
set_option maxRecDepth 100000 in
theorem rdyt5_8 : Region.ready .any opst5 (Held.lst 10 ordt5 8) = [8] := by kernel_rfl
set_option maxHeartbeats 16000000 in
set_option maxRecDepth 100000 in
theorem two5_walk (n c : Nat) (A : Option Addr) (l : List Sn) (s r : Ch) (w : World) (hl : Row enSn 5 w (.slice A n c) l) (hz : SzN l) (hqa : s.c.size ≤ 9223372036854775807 ∧ s.v.2.2.2.size ≤ 9223372036854775807) (hqb : r.c.size ≤ 9223372036854775807 ∧ r.v.2.2.2.size ≤ 9223372036854775807) :
    Calls Try.prog 14 #[.slice A n c, vaCh s, vaCh r] w fun e w' => e = .returned (.bool true) ∧ Below w.heap.size w w' := by
  obtain ⟨qa, oa, xa, ya, za, ta⟩ := s
  obtain ⟨qb, ob, xb, yb, zb, tb⟩ := r
  simp only at hqa hqb
  have EA := Lib.hid hl.len_eq
  have D := below_alloc0 (below_box (w := w) (bxCh qa oa xa ya za ta)) (bxCh qb ob xb yb zb tb)
  have ha := halloc (heap_alloc_new w (bxCh qa oa xa ya za ta)) (bxCh qb ob xb yb zb tb)
  have hb := heap_alloc_new (w.alloc (bxCh qa oa xa ya za ta)) (bxCh qb ob xb yb zb tb)
  rw [size_alloc] at hb
  cases h : fewT l with
  | false =>
    have H := Lib.hid h
    clear h
    go_enter Try.func14, Try.ntmps14
    go_wp2_with fail
    with_reducible refine (few5_is n c A l _ (hl.below D) false hz H).mono ?_
    rintro e w1 ⟨rfl, b1⟩
    replace ha := hcall ha b1
    replace hb := hcall hb b1
    replace D := below_call D b1
    clear b1
    go_wp2_with fail
    with_reducible refine (live05 _).mono ?_
    rintro e w2 ⟨rfl, b2⟩
    replace ha := hcall ha b2
    replace hb := hcall hb b2
    replace D := below_call D b2
    clear b2
    go_wp2
    go_ret
    exact ⟨rfl, D⟩
  | true =>
  obtain ⟨hs, h50⟩ := fewT_sz h
  have hn : n ≤ 1000 := by have := EA.out; omega
  have hln : l.length ≤ 40 := h50
  have H := Lib.hid h
  clear h h50
  cases h : mayT l with
  | false =>
    have HM := Lib.hid h
    clear h
    go_enter Try.func14, Try.ntmps14
    go_wp2_with fail
    with_reducible refine (few5_is n c A l _ (hl.below D) true hz H).mono ?_
    rintro e w1 ⟨rfl, b1⟩
    replace ha := hcall ha b1
    replace hb := hcall hb b1
    replace D := below_call D b1
    clear b1
    go_wp2_with fail
    with_reducible refine (refMay5_is n c A l _ (hl.below D) false hs HM).mono ?_
    rintro e w2 ⟨rfl, b2⟩
    replace ha := hcall ha b2
    replace hb := hcall hb b2
    replace D := below_call D b2
    clear b2
    go_wp2_with fail
    with_reducible refine (live05 _).mono ?_
    rintro e w3 ⟨rfl, b3⟩
    replace ha := hcall ha b3
    replace hb := hcall hb b3
    replace D := below_call D b3
    clear b3
    go_wp2
    go_ret
    exact ⟨rfl, D⟩
  | true =>
  have hm := Lib.hid h
  have HM := Lib.hid h
  clear h
  by_cases hqas : (60 : Int) < (qa.size : Int)
  · go_enter Try.func14, Try.ntmps14
    go_wp2_with fail
    with_reducible refine (few5_is n c A l _ (hl.below D) true hz H).mono ?_
    rintro e w1 ⟨rfl, b1⟩
    replace ha := hcall ha b1
    replace hb := hcall hb b1
    replace D := below_call D b1
    clear b1
    go_wp2_with fail
    with_reducible refine (refMay5_is n c A l _ (hl.below D) true hs HM).mono ?_
    rintro e w2 ⟨rfl, b2⟩
    replace ha := hcall ha b2
    replace hb := hcall hb b2
    replace D := below_call D b2
    clear b2
    obtain ⟨ka0, ka1, ka2, ka3, ka4, ka5, kaz⟩ := cellsCh qa oa xa ya za ta ha
    obtain ⟨kb0, kb1, kb2, kb3, kb4, kb5, kbz⟩ := cellsCh qb ob xb yb zb tb hb
    go_wp2_with fail
    with_reducible refine (live05 _).mono ?_
    rintro e w3 ⟨rfl, b3⟩
    replace ha := hcall ha b3
    replace hb := hcall hb b3
    replace D := below_call D b3
    clear b3 ka0 ka1 ka2 ka3 ka4 ka5 kaz kb0 kb1 kb2 kb3 kb4 kb5 kbz
    go_wp2
    go_ret
    exact ⟨rfl, D⟩
  have hqat : (qa.size : Int) ≤ 60 := by omega
  clear hqas
  by_cases hqbs : (60 : Int) < (qb.size : Int)
  · go_enter Try.func14, Try.ntmps14
    go_wp2_with fail
    with_reducible refine (few5_is n c A l _ (hl.below D) true hz H).mono ?_
    rintro e w1 ⟨rfl, b1⟩
    replace ha := hcall ha b1
    replace hb := hcall hb b1
    replace D := below_call D b1
    clear b1
    go_wp2_with fail
    with_reducible refine (refMay5_is n c A l _ (hl.below D) true hs HM).mono ?_
    rintro e w2 ⟨rfl, b2⟩
    replace ha := hcall ha b2
    replace hb := hcall hb b2
    replace D := below_call D b2
    clear b2
    obtain ⟨ka0, ka1, ka2, ka3, ka4, ka5, kaz⟩ := cellsCh qa oa xa ya za ta ha
    obtain ⟨kb0, kb1, kb2, kb3, kb4, kb5, kbz⟩ := cellsCh qb ob xb yb zb tb hb
    go_wp2_with fail
    with_reducible refine (live05 _).mono ?_
    rintro e w3 ⟨rfl, b3⟩
    replace ha := hcall ha b3
    replace hb := hcall hb b3
    replace D := below_call D b3
    clear b3 ka0 ka1 ka2 ka3 ka4 ka5 kaz kb0 kb1 kb2 kb3 kb4 kb5 kbz
    go_wp2
    go_ret
    exact ⟨rfl, D⟩
  have hqbt : (qb.size : Int) ≤ 60 := by omega
  clear hqbs
  by_cases htas : (100 : Int) < (ta.size : Int)
  · go_enter Try.func14, Try.ntmps14
    go_wp2_with fail
    with_reducible refine (few5_is n c A l _ (hl.below D) true hz H).mono ?_
    rintro e w1 ⟨rfl, b1⟩
    replace ha := hcall ha b1
    replace hb := hcall hb b1
    replace D := below_call D b1
    clear b1
    go_wp2_with fail
    with_reducible refine (refMay5_is n c A l _ (hl.below D) true hs HM).mono ?_
    rintro e w2 ⟨rfl, b2⟩
    replace ha := hcall ha b2
    replace hb := hcall hb b2
    replace D := below_call D b2
    clear b2
    obtain ⟨ka0, ka1, ka2, ka3, ka4, ka5, kaz⟩ := cellsCh qa oa xa ya za ta ha
    obtain ⟨kb0, kb1, kb2, kb3, kb4, kb5, kbz⟩ := cellsCh qb ob xb yb zb tb hb
    go_wp2_with fail
    with_reducible refine (live05 _).mono ?_
    rintro e w3 ⟨rfl, b3⟩
    replace ha := hcall ha b3
    replace hb := hcall hb b3
    replace D := below_call D b3
    clear b3 ka0 ka1 ka2 ka3 ka4 ka5 kaz kb0 kb1 kb2 kb3 kb4 kb5 kbz
    go_wp2
    go_ret
    exact ⟨rfl, D⟩
  have htat : (ta.size : Int) ≤ 100 := by omega
  clear htas
  by_cases htbs : (100 : Int) < (tb.size : Int)
  · go_enter Try.func14, Try.ntmps14
    go_wp2_with fail
    with_reducible refine (few5_is n c A l _ (hl.below D) true hz H).mono ?_
    rintro e w1 ⟨rfl, b1⟩
    replace ha := hcall ha b1
    replace hb := hcall hb b1
    replace D := below_call D b1
    clear b1
    go_wp2_with fail
    with_reducible refine (refMay5_is n c A l _ (hl.below D) true hs HM).mono ?_
    rintro e w2 ⟨rfl, b2⟩
    replace ha := hcall ha b2
    replace hb := hcall hb b2
    replace D := below_call D b2
    clear b2
    obtain ⟨ka0, ka1, ka2, ka3, ka4, ka5, kaz⟩ := cellsCh qa oa xa ya za ta ha
    obtain ⟨kb0, kb1, kb2, kb3, kb4, kb5, kbz⟩ := cellsCh qb ob xb yb zb tb hb
    go_wp2_with fail
    with_reducible refine (live05 _).mono ?_
    rintro e w3 ⟨rfl, b3⟩
    replace ha := hcall ha b3
    replace hb := hcall hb b3
    replace D := below_call D b3
    clear b3 ka0 ka1 ka2 ka3 ka4 ka5 kaz kb0 kb1 kb2 kb3 kb4 kb5 kbz
    go_wp2
    go_ret
    exact ⟨rfl, D⟩
  have htbt : (tb.size : Int) ≤ 100 := by omega
  clear htbs
  obtain ⟨P1, P2, P3⟩ := twoT_plain (mayT_ord hm.out) ⟨qa, oa, xa, ya, za, ta⟩ ⟨qb, ob, xb, yb, zb, tb⟩
  simp only at P1 P2 P3
  obtain ⟨ra, hra⟩ : ∃ r, setT l ⟨qa, oa, xa, ya, za, ta⟩ = r := ⟨_, rfl⟩
  obtain ⟨rb, hrb⟩ : ∃ r, setT l ⟨qb, ob, xb, yb, zb, tb⟩ = r := ⟨_, rfl⟩
  rw [hra] at P1 P2 P3
  rw [hrb] at P2 P3
  obtain ⟨rab, hrab⟩ : ∃ r, setT ra ⟨qb, ob, xb, yb, zb, tb⟩ = r := ⟨_, rfl⟩
  obtain ⟨rba, hrba⟩ : ∃ r, setT rb ⟨qa, oa, xa, ya, za, ta⟩ = r := ⟨_, rfl⟩
  rw [hrab, hrba] at P2 P3
  have la : ra.length ≤ 1000 := by rw [← hra]; have := setT_len_any l ⟨qa, oa, xa, ya, za, ta⟩; omega
  have lb : rb.length ≤ 1000 := by rw [← hrb]; have := setT_len_any l ⟨qb, ob, xb, yb, zb, tb⟩; omega
  have HA := Lib.hid hra
  have HB := Lib.hid hrb
  have HAB := Lib.hid hrab
  have HBA := Lib.hid hrba
  have HAA := Lib.hid P1
  replace P2 := Lib.hid P2
  replace P3 := Lib.hid P3
  clear hra hrb hrab hrba P1 hln
  go_enter Try.func14, Try.ntmps14
  go_wp2_with fail
  with_reducible refine (few5_is n c A l _ (hl.below D) true hz H).mono ?_
  rintro e w1 ⟨rfl, b1⟩
  replace ha := hcall ha b1
  replace hb := hcall hb b1
  replace D := below_call D b1
  clear b1
  go_wp2_with fail
  with_reducible refine (refMay5_is n c A l _ (hl.below D) true hs HM).mono ?_
  rintro e w2 ⟨rfl, b2⟩
  replace ha := hcall ha b2
  replace hb := hcall hb b2
  replace D := below_call D b2
  clear b2
  obtain ⟨ka0, ka1, ka2, ka3, ka4, ka5, kaz⟩ := cellsCh qa oa xa ya za ta ha
  obtain ⟨kb0, kb1, kb2, kb3, kb4, kb5, kbz⟩ := cellsCh qb ob xb yb zb tb hb
  clear kaz kbz
  replace ha : w2.drew.heap[_]? = _ := ha
  replace hb : w2.drew.heap[_]? = _ := hb
  replace D : Below _ _ w2.drew := D.drew
  go_wp2_with fail
  refine Held.start (ops := opst3) (S := fun w' => w'.cell? ⟨w.heap.size, 0, none⟩ = some (.string qa) ∧ w'.cell? ⟨w.heap.size, 1, none⟩ = some (.bool oa) ∧ w'.cell? ⟨w.heap.size, 2, none⟩ = some (.int .i64 xa) ∧ w'.cell? ⟨w.heap.size, 3, none⟩ = some (.int .i64 ya) ∧ w'.cell? ⟨w.heap.size, 4, none⟩ = some (.int .i64 za) ∧ w'.cell? ⟨w.heap.size, 5, none⟩ = some (.string ta) ∧ w'.cell? ⟨w.heap.size + 1, 0, none⟩ = some (.string qb) ∧ w'.cell? ⟨w.heap.size + 1, 1, none⟩ = some (.bool ob) ∧ w'.cell? ⟨w.heap.size + 1, 2, none⟩ = some (.int .i64 xb) ∧ w'.cell? ⟨w.heap.size + 1, 3, none⟩ = some (.int .i64 yb) ∧ w'.cell? ⟨w.heap.size + 1, 4, none⟩ = some (.int .i64 zb) ∧ w'.cell? ⟨w.heap.size + 1, 5, none⟩ = some (.string tb)) ordt3 6 (by kernel_rfl) sizt3 (by kernel_rfl) ⟨ka0, ka1, ka2, ka3, ka4, ka5, kb0, kb1, kb2, kb3, kb4, kb5⟩ (fun hHeld => ?_)
  refine Held.take (k := 0) (i := 0) (v := ?vt30) nost3 okkt3_0 sizt3 (by kernel_rfl) rfl (fun _ _ _ h => h) (Or.inl ⟨by kernel_rfl, ?hyt30⟩) (by assumption) ?restt30
  case hyt30 => (intro w hSw; (try dsimp only at hSw); go_simp; (try (first | with_reducible rfl | rw [if_neg (by omega)])))
  try simp only [Act.put, List.getElem_toArray, List.getElem_cons_succ, List.getElem_cons_zero, List.setIfInBounds_toArray, List.set_cons_zero, List.set_cons_succ]
  refine Held.take (k := 1) (i := 1) (v := ?vt31) nost3 okkt3_1 sizt3 (by kernel_rfl) rfl (fun _ _ _ h => h) (Or.inl ⟨by kernel_rfl, ?hyt31⟩) (by assumption) ?restt31
  case hyt31 => (intro w hSw; (try dsimp only at hSw); go_simp; (try (first | with_reducible rfl | rw [if_neg (by omega)])))
  try simp only [Act.put, List.getElem_toArray, List.getElem_cons_succ, List.getElem_cons_zero, List.setIfInBounds_toArray, List.set_cons_zero, List.set_cons_succ]
  refine Held.take (k := 2) (i := 3) (v := ?vt32) nost3 okkt3_2 sizt3 (by kernel_rfl) rfl (fun _ _ _ h => h) (Or.inl ⟨by kernel_rfl, ?hyt32⟩) (by assumption) ?restt32
  case hyt32 => (intro w hSw; (try dsimp only at hSw); go_simp; (try (first | with_reducible rfl | rw [if_neg (by omega)])))
  try simp only [Act.put, List.getElem_toArray, List.getElem_cons_succ, List.getElem_cons_zero, List.setIfInBounds_toArray, List.set_cons_zero, List.set_cons_succ]
  refine Held.only (k := 3) (i := 2) rdyt3_3 (by kernel_rfl) rfl (by kernel_rfl) (fun K hK => ?_)
  go_simp
  go_at_call 44
  with_reducible refine (Set5_is n c A l _ (hl.below D) qa oa xa ya za ta ra hn HA).mono ?_
  rintro e w3 ⟨v1, rfl, r1, hbx⟩
  obtain ⟨A_r1, c_r1, rfl⟩ := r1.form5 _ rfl
  replace ka0 := cell_below hbx ka0
  replace ka1 := cell_below hbx ka1
  replace ka2 := cell_below hbx ka2
  replace ka3 := cell_below hbx ka3
  replace ka4 := cell_below hbx ka4
  replace ka5 := cell_below hbx ka5
  replace kb0 := cell_below hbx kb0
  replace kb1 := cell_below hbx kb1
  replace kb2 := cell_below hbx kb2
  replace kb3 := cell_below hbx kb3
  replace kb4 := cell_below hbx kb4
  replace kb5 := cell_below hbx kb5
  replace ha := hcall ha hbx
  replace hb := hcall hb hbx
  replace D := below_call D hbx
  refine hK.out _ _ (by (try dsimp only); (exact ⟨ka0, ka1, ka2, ka3, ka4, ka5, kb0, kb1, kb2, kb3, kb4, kb5⟩)) (fun hHeld => ?_)
  clear hK K
  try simp only [Act.put, List.getElem_toArray, List.getElem_cons_succ, List.getElem_cons_zero, List.setIfInBounds_toArray, List.set_cons_zero, List.set_cons_succ]
  refine Held.only (k := 4) (i := 4) rdyt3_4 (by kernel_rfl) rfl (by kernel_rfl) (fun K hK => ?_)
  go_simp
  go_at_call 44
  with_reducible refine (Set5_is _ _ _ ra _ r1 qb ob xb yb zb tb rab la HAB).mono ?_
  rintro e w4 ⟨v2, rfl, r2, hbx⟩
  obtain ⟨A_r2, c_r2, rfl⟩ := r2.form5 _ rfl
  replace ka0 := cell_below hbx ka0
  replace ka1 := cell_below hbx ka1
  replace ka2 := cell_below hbx ka2
  replace ka3 := cell_below hbx ka3
  replace ka4 := cell_below hbx ka4
  replace ka5 := cell_below hbx ka5
  replace kb0 := cell_below hbx kb0
  replace kb1 := cell_below hbx kb1
  replace kb2 := cell_below hbx kb2
  replace kb3 := cell_below hbx kb3
  replace kb4 := cell_below hbx kb4
  replace kb5 := cell_below hbx kb5
  replace ha := hcall ha hbx
  replace hb := hcall hb hbx
  replace r1 := r1.below hbx
  replace D := below_call D hbx
  clear r1
  refine hK.out _ _ (by (try dsimp only); (exact ⟨ka0, ka1, ka2, ka3, ka4, ka5, kb0, kb1, kb2, kb3, kb4, kb5⟩)) (fun hHeld => ?_)
  clear hK K
  try simp only [Act.put, List.getElem_toArray, List.getElem_cons_succ, List.getElem_cons_zero, List.setIfInBounds_toArray, List.set_cons_zero, List.set_cons_succ]
  refine Held.take (k := 5) (i := 5) (v := ?vt35) nost3 okkt3_5 sizt3 (by kernel_rfl) rfl (fun _ _ _ h => h) (Or.inl ⟨by kernel_rfl, ?hyt35⟩) (by assumption) ?restt35
  case hyt35 => (intro w hSw; (try dsimp only at hSw); go_simp; (try (first | with_reducible rfl | rw [if_neg (by omega)])))
  try simp only [Act.put, List.getElem_toArray, List.getElem_cons_succ, List.getElem_cons_zero, List.setIfInBounds_toArray, List.set_cons_zero, List.set_cons_succ]
  refine wpAnyH_done (by kernel_rfl) ?_ _
  clear ka0 ka1 ka2 ka3 ka4 ka5 kb0 kb1 kb2 kb3 kb4 kb5
  obtain ⟨ka0, ka1, ka2, ka3, ka4, ka5, kaz⟩ := cellsCh qa oa xa ya za ta ha
  obtain ⟨kb0, kb1, kb2, kb3, kb4, kb5, kbz⟩ := cellsCh qb ob xb yb zb tb hb
  clear kaz kbz
  replace ha : w4.drew.heap[_]? = _ := ha
  replace hb : w4.drew.heap[_]? = _ := hb
  replace r2 : Row _ _ w4.drew _ _ := r2
  replace D : Below _ _ w4.drew := D.drew
  go_wp2_with fail
  refine Held.start (ops := opst4) (S := fun w' => w'.cell? ⟨w.heap.size, 0, none⟩ = some (.string qa) ∧ w'.cell? ⟨w.heap.size, 1, none⟩ = some (.bool oa) ∧ w'.cell? ⟨w.heap.size, 2, none⟩ = some (.int .i64 xa) ∧ w'.cell? ⟨w.heap.size, 3, none⟩ = some (.int .i64 ya) ∧ w'.cell? ⟨w.heap.size, 4, none⟩ = some (.int .i64 za) ∧ w'.cell? ⟨w.heap.size, 5, none⟩ = some (.string ta) ∧ w'.cell? ⟨w.heap.size + 1, 0, none⟩ = some (.string qb) ∧ w'.cell? ⟨w.heap.size + 1, 1, none⟩ = some (.bool ob) ∧ w'.cell? ⟨w.heap.size + 1, 2, none⟩ = some (.int .i64 xb) ∧ w'.cell? ⟨w.heap.size + 1, 3, none⟩ = some (.int .i64 yb) ∧ w'.cell? ⟨w.heap.size + 1, 4, none⟩ = some (.int .i64 zb) ∧ w'.cell? ⟨w.heap.size + 1, 5, none⟩ = some (.string tb)) ordt4 6 (by kernel_rfl) sizt4 (by kernel_rfl) ⟨ka0, ka1, ka2, ka3, ka4, ka5, kb0, kb1, kb2, kb3, kb4, kb5⟩ (fun hHeld => ?_)
  refine Held.take (k := 0) (i := 0) (v := ?vt40) nost4 okkt4_0 sizt4 (by kernel_rfl) rfl (fun _ _ _ h => h) (Or.inl ⟨by kernel_rfl, ?hyt40⟩) (by assumption) ?restt40
  case hyt40 => (intro w hSw; (try dsimp only at hSw); go_simp; (try (first | with_reducible rfl | rw [if_neg (by omega)])))
  try simp only [Act.put, List.getElem_toArray, List.getElem_cons_succ, List.getElem_cons_zero, List.setIfInBounds_toArray, List.set_cons_zero, List.set_cons_succ]
  refine Held.take (k := 1) (i := 1) (v := ?vt41) nost4 okkt4_1 sizt4 (by kernel_rfl) rfl (fun _ _ _ h => h) (Or.inl ⟨by kernel_rfl, ?hyt41⟩) (by assumption) ?restt41
  case hyt41 => (intro w hSw; (try dsimp only at hSw); go_simp; (try (first | with_reducible rfl | rw [if_neg (by omega)])))
  try simp only [Act.put, List.getElem_toArray, List.getElem_cons_succ, List.getElem_cons_zero, List.setIfInBounds_toArray, List.set_cons_zero, List.set_cons_succ]
  refine Held.take (k := 2) (i := 3) (v := ?vt42) nost4 okkt4_2 sizt4 (by kernel_rfl) rfl (fun _ _ _ h => h) (Or.inl ⟨by kernel_rfl, ?hyt42⟩) (by assumption) ?restt42
  case hyt42 => (intro w hSw; (try dsimp only at hSw); go_simp; (try (first | with_reducible rfl | rw [if_neg (by omega)])))
  try simp only [Act.put, List.getElem_toArray, List.getElem_cons_succ, List.getElem_cons_zero, List.setIfInBounds_toArray, List.set_cons_zero, List.set_cons_succ]
  refine Held.only (k := 3) (i := 2) rdyt4_3 (by kernel_rfl) rfl (by kernel_rfl) (fun K hK => ?_)
  go_simp
  go_at_call 44
  with_reducible refine (Set5_is n c A l _ (hl.below D) qb ob xb yb zb tb rb hn HB).mono ?_
  rintro e w5 ⟨v3, rfl, r3, hbx⟩
  obtain ⟨A_r3, c_r3, rfl⟩ := r3.form5 _ rfl
  replace ka0 := cell_below hbx ka0
  replace ka1 := cell_below hbx ka1
  replace ka2 := cell_below hbx ka2
  replace ka3 := cell_below hbx ka3
  replace ka4 := cell_below hbx ka4
  replace ka5 := cell_below hbx ka5
  replace kb0 := cell_below hbx kb0
  replace kb1 := cell_below hbx kb1
  replace kb2 := cell_below hbx kb2
  replace kb3 := cell_below hbx kb3
  replace kb4 := cell_below hbx kb4
  replace kb5 := cell_below hbx kb5
  replace ha := hcall ha hbx
  replace hb := hcall hb hbx
  replace r2 := r2.below hbx
  replace D := below_call D hbx
  refine hK.out _ _ (by (try dsimp only); (exact ⟨ka0, ka1, ka2, ka3, ka4, ka5, kb0, kb1, kb2, kb3, kb4, kb5⟩)) (fun hHeld => ?_)
  clear hK K
  try simp only [Act.put, List.getElem_toArray, List.getElem_cons_succ, List.getElem_cons_zero, List.setIfInBounds_toArray, List.set_cons_zero, List.set_cons_succ]
  refine Held.only (k := 4) (i := 4) rdyt4_4 (by kernel_rfl) rfl (by kernel_rfl) (fun K hK => ?_)
  go_simp
  go_at_call 44
  with_reducible refine (Set5_is _ _ _ rb _ r3 qa oa xa ya za ta rba lb HBA).mono ?_
  rintro e w6 ⟨v4, rfl, r4, hbx⟩
  obtain ⟨A_r4, c_r4, rfl⟩ := r4.form5 _ rfl
  replace ka0 := cell_below hbx ka0
  replace ka1 := cell_below hbx ka1
  replace ka2 := cell_below hbx ka2
  replace ka3 := cell_below hbx ka3
  replace ka4 := cell_below hbx ka4
  replace ka5 := cell_below hbx ka5
  replace kb0 := cell_below hbx kb0
  replace kb1 := cell_below hbx kb1
  replace kb2 := cell_below hbx kb2
  replace kb3 := cell_below hbx kb3
  replace kb4 := cell_below hbx kb4
  replace kb5 := cell_below hbx kb5
  replace ha := hcall ha hbx
  replace hb := hcall hb hbx
  replace r2 := r2.below hbx
  replace r3 := r3.below hbx
  replace D := below_call D hbx
  clear r3
  refine hK.out _ _ (by (try dsimp only); (exact ⟨ka0, ka1, ka2, ka3, ka4, ka5, kb0, kb1, kb2, kb3, kb4, kb5⟩)) (fun hHeld => ?_)
  clear hK K
  try simp only [Act.put, List.getElem_toArray, List.getElem_cons_succ, List.getElem_cons_zero, List.setIfInBounds_toArray, List.set_cons_zero, List.set_cons_succ]
  refine Held.take (k := 5) (i := 5) (v := ?vt45) nost4 okkt4_5 sizt4 (by kernel_rfl) rfl (fun _ _ _ h => h) (Or.inl ⟨by kernel_rfl, ?hyt45⟩) (by assumption) ?restt45
  case hyt45 => (intro w hSw; (try dsimp only at hSw); go_simp; (try (first | with_reducible rfl | rw [if_neg (by omega)])))
  try simp only [Act.put, List.getElem_toArray, List.getElem_cons_succ, List.getElem_cons_zero, List.setIfInBounds_toArray, List.set_cons_zero, List.set_cons_succ]
  refine wpAnyH_done (by kernel_rfl) ?_ _
  clear ka0 ka1 ka2 ka3 ka4 ka5 kb0 kb1 kb2 kb3 kb4 kb5
  obtain ⟨ka0, ka1, ka2, ka3, ka4, ka5, kaz⟩ := cellsCh qa oa xa ya za ta ha
  obtain ⟨kb0, kb1, kb2, kb3, kb4, kb5, kbz⟩ := cellsCh qb ob xb yb zb tb hb
  clear kaz kbz
  replace ha : w6.drew.heap[_]? = _ := ha
  replace hb : w6.drew.heap[_]? = _ := hb
  replace r2 : Row _ _ w6.drew _ _ := r2
  replace r4 : Row _ _ w6.drew _ _ := r4
  replace D : Below _ _ w6.drew := D.drew
  go_wp2_with fail
  refine Held.start (ops := opst5) (S := fun w' => w'.cell? ⟨w.heap.size, 0, none⟩ = some (.string qa) ∧ w'.cell? ⟨w.heap.size, 1, none⟩ = some (.bool oa) ∧ w'.cell? ⟨w.heap.size, 2, none⟩ = some (.int .i64 xa) ∧ w'.cell? ⟨w.heap.size, 3, none⟩ = some (.int .i64 ya) ∧ w'.cell? ⟨w.heap.size, 4, none⟩ = some (.int .i64 za) ∧ w'.cell? ⟨w.heap.size, 5, none⟩ = some (.string ta) ∧ w'.cell? ⟨w.heap.size + 1, 0, none⟩ = some (.string qb) ∧ w'.cell? ⟨w.heap.size + 1, 1, none⟩ = some (.bool ob) ∧ w'.cell? ⟨w.heap.size + 1, 2, none⟩ = some (.int .i64 xb) ∧ w'.cell? ⟨w.heap.size + 1, 3, none⟩ = some (.int .i64 yb) ∧ w'.cell? ⟨w.heap.size + 1, 4, none⟩ = some (.int .i64 zb) ∧ w'.cell? ⟨w.heap.size + 1, 5, none⟩ = some (.string tb)) ordt5 10 (by kernel_rfl) sizt5 (by kernel_rfl) ⟨ka0, ka1, ka2, ka3, ka4, ka5, kb0, kb1, kb2, kb3, kb4, kb5⟩ (fun hHeld => ?_)
  refine Held.take (k := 0) (i := 0) (v := ?vt50) nost5 okkt5_0 sizt5 (by kernel_rfl) rfl (fun _ _ _ h => h) (Or.inl ⟨by kernel_rfl, ?hyt50⟩) (by assumption) ?restt50
  case hyt50 => (intro w hSw; (try dsimp only at hSw); go_simp; (try (first | with_reducible rfl | rw [if_neg (by omega)])))
  try simp only [Act.put, List.getElem_toArray, List.getElem_cons_succ, List.getElem_cons_zero, List.setIfInBounds_toArray, List.set_cons_zero, List.set_cons_succ]
  refine Held.take (k := 1) (i := 1) (v := ?vt51) nost5 okkt5_1 sizt5 (by kernel_rfl) rfl (fun _ _ _ h => h) (Or.inl ⟨by kernel_rfl, ?hyt51⟩) (by assumption) ?restt51
  case hyt51 => (intro w hSw; (try dsimp only at hSw); go_simp; (try (first | with_reducible rfl | rw [if_neg (by omega)])))
  try simp only [Act.put, List.getElem_toArray, List.getElem_cons_succ, List.getElem_cons_zero, List.setIfInBounds_toArray, List.set_cons_zero, List.set_cons_succ]
  refine Held.take (k := 2) (i := 3) (v := ?vt52) nost5 okkt5_2 sizt5 (by kernel_rfl) rfl (fun _ _ _ h => h) (Or.inl ⟨by kernel_rfl, ?hyt52⟩) (by assumption) ?restt52
  case hyt52 => (intro w hSw; (try dsimp only at hSw); go_simp; (try (first | with_reducible rfl | rw [if_neg (by omega)])))
  try simp only [Act.put, List.getElem_toArray, List.getElem_cons_succ, List.getElem_cons_zero, List.setIfInBounds_toArray, List.set_cons_zero, List.set_cons_succ]
  refine Held.take (k := 3) (i := 5) (v := ?vt53) nost5 okkt5_3 sizt5 (by kernel_rfl) rfl (fun _ _ _ h => h) (Or.inl ⟨by kernel_rfl, ?hyt53⟩) (by assumption) ?restt53
  case hyt53 => (intro w hSw; (try dsimp only at hSw); go_simp; (try (first | with_reducible rfl | rw [if_neg (by omega)])))
  try simp only [Act.put, List.getElem_toArray, List.getElem_cons_succ, List.getElem_cons_zero, List.setIfInBounds_toArray, List.set_cons_zero, List.set_cons_succ]
  refine Held.take (k := 4) (i := 6) (v := ?vt54) nost5 okkt5_4 sizt5 (by kernel_rfl) rfl (fun _ _ _ h => h) (Or.inl ⟨by kernel_rfl, ?hyt54⟩) (by assumption) ?restt54
  case hyt54 => (intro w hSw; (try dsimp only at hSw); go_simp; (try (first | with_reducible rfl | rw [if_neg (by omega)])))
  try simp only [Act.put, List.getElem_toArray, List.getElem_cons_succ, List.getElem_cons_zero, List.setIfInBounds_toArray, List.set_cons_zero, List.set_cons_succ]
  refine Held.only (k := 5) (i := 2) rdyt5_5 (by kernel_rfl) rfl (by kernel_rfl) (fun K hK => ?_)
  go_simp
  go_at_call 44
  with_reducible refine (Set5_is n c A l _ (hl.below D) qa oa xa ya za ta ra hn HA).mono ?_
  rintro e w7 ⟨v5, rfl, r5, hbx⟩
  obtain ⟨A_r5, c_r5, rfl⟩ := r5.form5 _ rfl
  replace ka0 := cell_below hbx ka0
  replace ka1 := cell_below hbx ka1
  replace ka2 := cell_below hbx ka2
  replace ka3 := cell_below hbx ka3
  replace ka4 := cell_below hbx ka4
  replace ka5 := cell_below hbx ka5
  replace kb0 := cell_below hbx kb0
  replace kb1 := cell_below hbx kb1
  replace kb2 := cell_below hbx kb2
  replace kb3 := cell_below hbx kb3
  replace kb4 := cell_below hbx kb4
  replace kb5 := cell_below hbx kb5
  replace ha := hcall ha hbx
  replace hb := hcall hb hbx
  replace r2 := r2.below hbx
  replace r4 := r4.below hbx
  replace D := below_call D hbx
  refine hK.out _ _ (by (try dsimp only); (exact ⟨ka0, ka1, ka2, ka3, ka4, ka5, kb0, kb1, kb2, kb3, kb4, kb5⟩)) (fun hHeld => ?_)
  clear hK K
  try simp only [Act.put, List.getElem_toArray, List.getElem_cons_succ, List.getElem_cons_zero, List.setIfInBounds_toArray, List.set_cons_zero, List.set_cons_succ]
  refine Held.only (k := 6) (i := 4) rdyt5_6 (by kernel_rfl) rfl (by kernel_rfl) (fun K hK => ?_)
  go_simp
  go_at_call 44
  with_reducible refine (Set5_is _ _ _ ra _ r5 qa oa xa ya za ta ra la HAA).mono ?_
  rintro e w8 ⟨v6, rfl, r6, hbx⟩
  obtain ⟨A_r6, c_r6, rfl⟩ := r6.form5 _ rfl
  replace ka0 := cell_below hbx ka0
  replace ka1 := cell_below hbx ka1
  replace ka2 := cell_below hbx ka2
  replace ka3 := cell_below hbx ka3
  replace ka4 := cell_below hbx ka4
  replace ka5 := cell_below hbx ka5
  replace kb0 := cell_below hbx kb0
  replace kb1 := cell_below hbx kb1
  replace kb2 := cell_below hbx kb2
  replace kb3 := cell_below hbx kb3
  replace kb4 := cell_below hbx kb4
  replace kb5 := cell_below hbx kb5
  replace ha := hcall ha hbx
  replace hb := hcall hb hbx
  replace r2 := r2.below hbx
  replace r4 := r4.below hbx
  replace r5 := r5.below hbx
  replace D := below_call D hbx
  clear r5
  refine hK.out _ _ (by (try dsimp only); (exact ⟨ka0, ka1, ka2, ka3, ka4, ka5, kb0, kb1, kb2, kb3, kb4, kb5⟩)) (fun hHeld => ?_)
  clear hK K
  try simp only [Act.put, List.getElem_toArray, List.getElem_cons_succ, List.getElem_cons_zero, List.setIfInBounds_toArray, List.set_cons_zero, List.set_cons_succ]
  refine Held.only (k := 7) (i := 7) rdyt5_7 (by kernel_rfl) rfl (by kernel_rfl) (fun K hK => ?_)
  go_simp
  go_at_call 44
  with_reducible refine (Set5_is n c A l _ (hl.below D) qa oa xa ya za ta ra hn HA).mono ?_
  rintro e w9 ⟨v7, rfl, r7, hbx⟩
  obtain ⟨A_r7, c_r7, rfl⟩ := r7.form5 _ rfl
  replace ka0 := cell_below hbx ka0
  replace ka1 := cell_below hbx ka1
  replace ka2 := cell_below hbx ka2
  replace ka3 := cell_below hbx ka3
  replace ka4 := cell_below hbx ka4
  replace ka5 := cell_below hbx ka5
  replace kb0 := cell_below hbx kb0
  replace kb1 := cell_below hbx kb1
  replace kb2 := cell_below hbx kb2
  replace kb3 := cell_below hbx kb3
  replace kb4 := cell_below hbx kb4
  replace kb5 := cell_below hbx kb5
  replace ha := hcall ha hbx
  replace hb := hcall hb hbx
  replace r2 := r2.below hbx
  replace r4 := r4.below hbx
  replace r6 := r6.below hbx
  replace D := below_call D hbx
  refine hK.out _ _ (by (try dsimp only); (exact ⟨ka0, ka1, ka2, ka3, ka4, ka5, kb0, kb1, kb2, kb3, kb4, kb5⟩)) (fun hHeld => ?_)
  clear hK K
  try simp only [Act.put, List.getElem_toArray, List.getElem_cons_succ, List.getElem_cons_zero, List.setIfInBounds_toArray, List.set_cons_zero, List.set_cons_succ]
  refine Held.only (k := 8) (i := 8) rdyt5_8 (by kernel_rfl) rfl (by kernel_rfl) (fun K hK => ?_)
  go_simp
  go_at_call 41
  with_reducible refine (Same5_is _ _ _ ra _ r6 _ _ _ ra r7 true (Lib.hid (decide_eq_true rfl))).mono ?_
  rintro e w10 ⟨rfl, hbx⟩
  replace ka0 := cell_below hbx ka0
  replace ka1 := cell_below hbx ka1
  replace ka2 := cell_below hbx ka2
  replace ka3 := cell_below hbx ka3
  replace ka4 := cell_below hbx ka4
  replace ka5 := cell_below hbx ka5
  replace kb0 := cell_below hbx kb0
  replace kb1 := cell_below hbx kb1
  replace kb2 := cell_below hbx kb2
  replace kb3 := cell_below hbx kb3
  replace kb4 := cell_below hbx kb4
  replace kb5 := cell_below hbx kb5
  replace ha := hcall ha hbx
  replace hb := hcall hb hbx
  replace r2 := r2.below hbx
  replace r4 := r4.below hbx
  replace r6 := r6.below hbx
  replace r7 := r7.below hbx
  replace D := below_call D hbx
  clear r6 r7
  refine hK.out _ _ (by (try dsimp only); (exact ⟨ka0, ka1, ka2, ka3, ka4, ka5, kb0, kb1, kb2, kb3, kb4, kb5⟩)) (fun hHeld => ?_)
  clear hK K
  try simp only [Act.put, List.getElem_toArray, List.getElem_cons_succ, List.getElem_cons_zero, List.setIfInBounds_toArray, List.set_cons_zero, List.set_cons_succ]
  refine Held.take (k := 9) (i := 9) (v := ?vt59) nost5 okkt5_9 sizt5 (by kernel_rfl) rfl (fun _ _ _ h => h) (Or.inl ⟨by kernel_rfl, ?hyt59⟩) (by assumption) ?restt59
  case hyt59 => (intro w hSw; (try dsimp only at hSw); go_simp; (try (first | with_reducible rfl | rw [if_neg (by omega)])))
  try simp only [Act.put, List.getElem_toArray, List.getElem_cons_succ, List.getElem_cons_zero, List.setIfInBounds_toArray, List.set_cons_zero, List.set_cons_succ]
  refine wpAnyH_done (by kernel_rfl) ?_ _
  clear ka0 ka1 ka2 ka3 ka4 ka5 kb0 kb1 kb2 kb3 kb4 kb5
  by_cases hq : qa = qb
  · have hqe : (qa.toList == qb.toList) = true := by rw [hq]; exact beq_self_eq_true _
    obtain ⟨PX, PY⟩ := P2.out hq
    replace PX := Lib.hid PX
    replace PY := Lib.hid PY
    have hqe2 : qa.toList = qb.toList := by rw [hq]
    clear hq
    obtain ⟨ka0, ka1, ka2, ka3, ka4, ka5, kaz⟩ := cellsCh qa oa xa ya za ta ha
    obtain ⟨kb0, kb1, kb2, kb3, kb4, kb5, kbz⟩ := cellsCh qb ob xb yb zb tb hb
    go_wp2_with fail
    with_reducible refine (Set5_is n c A l _ (hl.below D) qb ob xb yb zb tb rb hn HB).mono ?_
    rintro e w11 ⟨v8, rfl, r8, b11⟩
    replace ha := hcall ha b11
    replace hb := hcall hb b11
    replace r2 := r2.below b11
    replace r4 := r4.below b11
    replace D := below_call D b11
    clear b11 ka0 ka1 ka2 ka3 ka4 ka5 kaz kb0 kb1 kb2 kb3 kb4 kb5 kbz
    obtain ⟨A_r8, c_r8, rfl⟩ := r8.form5 _ rfl
    go_wp2_with fail
    with_reducible refine (Same5_is _ _ _ rab _ r2 _ _ _ rb r8 true (Lib.hid (decide_eq_true PX.out))).mono ?_
    rintro e w12 ⟨rfl, b12⟩
    replace ha := hcall ha b12
    replace hb := hcall hb b12
    replace r2 := r2.below b12
    replace r4 := r4.below b12
    replace r8 := r8.below b12
    replace D := below_call D b12
    clear b12
    clear r8 r2
    obtain ⟨ka0, ka1, ka2, ka3, ka4, ka5, kaz⟩ := cellsCh qa oa xa ya za ta ha
    obtain ⟨kb0, kb1, kb2, kb3, kb4, kb5, kbz⟩ := cellsCh qb ob xb yb zb tb hb
    go_wp2_with fail
    with_reducible refine (Set5_is n c A l _ (hl.below D) qa oa xa ya za ta ra hn HA).mono ?_
    rintro e w13 ⟨v9, rfl, r9, b13⟩
    replace ha := hcall ha b13
    replace hb := hcall hb b13
    replace r4 := r4.below b13
    replace D := below_call D b13
    clear b13 ka0 ka1 ka2 ka3 ka4 ka5 kaz kb0 kb1 kb2 kb3 kb4 kb5 kbz
    obtain ⟨A_r9, c_r9, rfl⟩ := r9.form5 _ rfl
    go_wp2_with fail
    with_reducible refine (Same5_is _ _ _ rba _ r4 _ _ _ ra r9 true (Lib.hid (decide_eq_true PY.out))).mono ?_
    rintro e w14 ⟨rfl, b14⟩
    replace ha := hcall ha b14
    replace hb := hcall hb b14
    replace r4 := r4.below b14
    replace r9 := r9.below b14
    replace D := below_call D b14
    clear b14
    clear r9 r4
    go_wp2_with fail
    with_reducible refine (live05 _).mono ?_
    rintro e w15 ⟨rfl, b15⟩
    replace ha := hcall ha b15
    replace hb := hcall hb b15
    replace D := below_call D b15
    clear b15
    go_wp2
    go_ret
    exact ⟨rfl, D⟩
  · have PX := Lib.hid (P3.out hq)
    have hqe : (qa.toList == qb.toList) = false := by simpa [toList_inj'] using hq
    have hqe2 : ¬ qa.toList = qb.toList := by simpa [toList_inj'] using hq
    clear hq
    obtain ⟨ka0, ka1, ka2, ka3, ka4, ka5, kaz⟩ := cellsCh qa oa xa ya za ta ha
    obtain ⟨kb0, kb1, kb2, kb3, kb4, kb5, kbz⟩ := cellsCh qb ob xb yb zb tb hb
    go_wp2_with fail
    with_reducible refine (Same5_is _ _ _ rab _ r2 _ _ _ rba r4 true (Lib.hid (decide_eq_true PX.out))).mono ?_
    rintro e w11 ⟨rfl, b11⟩
    replace ha := hcall ha b11
    replace hb := hcall hb b11
    replace r2 := r2.below b11
    replace r4 := r4.below b11
    replace D := below_call D b11
    clear b11 ka0 ka1 ka2 ka3 ka4 ka5 kaz kb0 kb1 kb2 kb3 kb4 kb5 kbz
    clear r2 r4
    go_wp2_with fail
    with_reducible refine (live05 _).mono ?_
    rintro e w12 ⟨rfl, b12⟩
    replace ha := hcall ha b12
    replace hb := hcall hb b12
    replace D := below_call D b12
    clear b12
    go_wp2
    go_ret
    exact ⟨rfl, D⟩
end Go.Proofs.Ytcopiimflloooaa
