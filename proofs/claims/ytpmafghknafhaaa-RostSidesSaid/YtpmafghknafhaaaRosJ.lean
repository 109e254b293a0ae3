/-
Contract: whether rosters may be, by the program.
-/
import Derived.Test.YtpmafghknafhaaaRosI
import Derived.Test.YtpmafghknafhaaaMapCnt
import Derived.Test.YtpmafghknafhaaaRosJ0
set_option linter.unusedVariables false
set_option linter.unusedSimpArgs false
namespace Go.Proofs.Ytpmafghknafhaaa
open Go.RowKit Go.WideMaps Go.Maps
open Sp
def SzRo (l : List En) : Prop := ∀ s ∈ l, s.o.size ≤ 140737488351232 ∧ s.c.size ≤ 140737488351232
theorem CntMap.drew {w : World} {b n : Nat} {xs : List ByteArray} (h : CntMap w b n xs) : CntMap w.drew b n xs := h
set_option maxHeartbeats 32000000 in
set_option maxRecDepth 100000 in
theorem MayRo_calls (n c : Nat) (A : Option Addr) (l : List En) (w : World) (hl : Row enEn 7 w (.slice A n c) l) (hz : SzRo l) (hn : n ≤ 100000) :
    Calls Try.prog 12 #[.slice A n c] w fun e w' => e = .returned (.bool (mayRo l)) ∧ Below w.heap.size w w' := by
  have EA := Lib.hid hl.len_eq
  obtain ⟨r, hr⟩ : ∃ r, mayRo l = r := ⟨_, rfl⟩
  rw [hr]
  have HR := Lib.hid hr
  have HZ := Lib.hid hz
  clear hr hz
  have hmm := @run_makeMap Try.prog
  go_enter Try.func12, Try.ntmps12
  go_wp2
  go_loopw [11] (fun v11 wr => ∃ i : Nat, v11 = .int .i64 i ∧ i ≤ n ∧ CntMap wr w.heap.size i ((l.take i).map En.o) ∧ Below w.heap.size w wr ∧ Hid (∀ o, cntL ((l.take i).map En.o) o ≤ 16) ∧ Hid (∀ j (h : j < l.length), j < i → condRo l l[j] = true) ∧ Hid (∀ j (h : j + 1 < l.length), j + 1 < i → ltRo (keyRo l[j]) (keyRo l[j + 1]) = true)) (fun v11 _ => (n - intOf v11).toNat)
  case atStart => exact ⟨0, rfl, Nat.zero_le _, CntMap.new _, below_alloc (Below.refl _ _) _, fun o => Nat.zero_le _, fun j _ h => absurd h (by omega), fun j _ h => absurd h (by omega)⟩
  case round =>
    obtain ⟨i, rfl, hi, CM, D, HC, HK, HJ⟩ := hrel
    by_cases hlt : i < n
    · have hil : i < l.length := by have := EA.out; omega
      obtain ⟨⟨a_, b_, c_, d_, e_, f_, g_⟩, he⟩ : ∃ e, l[i] = e := ⟨_, rfl⟩
      obtain ⟨z1, z2⟩ := HZ.out l[i] (List.getElem_mem _)
      rw [he] at z1 z2
      simp only at z1 z2
      obtain ⟨ad, rfl, c0, c1, c2, c3, c4, c5, c6⟩ := rowEn (hl.below D) i hil a_ b_ c_ d_ e_ f_ g_ he
      have HE := Lib.hid he
      have htk : (l.take (i + 1)).map En.o = (l.take i).map En.o ++ [a_] := by rw [List.take_succ_eq_append_getElem hil, List.map_append, he]; rfl
      have HTK := Lib.hid htk
      clear he htk
      have hmb : w.heap.size < wr.heap.size := by
        obtain ⟨_, ⟨_, _, hb, _⟩, _⟩ := CM
        exact (Array.getElem?_eq_some_iff.1 hb).1
      have hbX := heap_alloc_new wr (bxEn a_ b_ c_ d_ e_ f_ g_)
      obtain ⟨u0, u1, u2, u3, u4, u5, u6, uz⟩ := cellsEn a_ b_ c_ d_ e_ f_ g_ hbX
      have D1 := below_alloc0 D (bxEn a_ b_ c_ d_ e_ f_ g_)
      have CM1 := CM.below (below_box (bxEn a_ b_ c_ d_ e_ f_ g_))
      have hzm : a_.size ≤ maxLen := by simp only [maxLen]; omega
      have hlook := CM1.look a_ hzm
      obtain ⟨k, hk⟩ : ∃ k, cntL ((l.take i).map En.o) a_ = k := ⟨_, rfl⟩
      rw [hk] at hlook
      have hki : k ≤ 16 := by rw [← hk]; exact HC.out a_
      have HK0 := Lib.hid hk
      obtain ⟨M, hown, hM⟩ := CM1
      have hput := hM.put a_
      rw [hk] at hput
      have hwf : (Lit.int .i64 (((k + 1 : Nat) : Int))).wf = true := WalkArith.wf_i64 ⟨by omega, by omega⟩
      clear hk CM D
      go_wp2_with (first | (at_mapUpdate; refine wpList_mapUpdate_own _ rfl _ _ _ 65 rfl 9 3 mapLawC Try.underlying65 _ w.heap.size i _ rfl hown (by unfold maxLen; omega) _ (.int .i64 (((k + 1 : Nat) : Int))) (keyC a_) rfl (by go_num) (keyOf_string_mk Try.underlying9 hzm) (.lit (.int .i64 (((k + 1 : Nat) : Int)))) [] (plainElem_int Try.underlying3 hwf) ?_) | go_in)
      intro w2 hown2 hgrow2
      have CM : CntMap w2 w.heap.size (i + 1) ((l.take (i + 1)).map En.o) := by rw [HTK.out]; exact ⟨_, hown2, hput⟩
      have D := D1.grown hgrow2 D1.size (fun j hj => by cases hj; exact Nat.le_refl _)
      replace hbX : w2.heap[wr.heap.size]? = some (bxEn a_ b_ c_ d_ e_ f_ g_) := (hgrow2.block wr.heap.size (by rw [size_alloc]; exact Nat.lt_succ_self _) (fun h => by injection h with h; omega)).trans hbX
      have hcn : cntL ((l.take (i + 1)).map En.o) a_ = k + 1 := by rw [HTK.out, cntL_snoc, HK0.out, if_pos rfl]
      have hlook2 := CM.look a_ hzm
      rw [hcn] at hlook2
      clear hown2 hgrow2 hown hM hput D1 hlook c0 c1 c2 c3 c4 c5 c6 u0 u1 u2 u3 u4 u5 u6 uz hmb hwf
      obtain ⟨u0, u1, u2, u3, u4, u5, u6, uz⟩ := cellsEn a_ b_ c_ d_ e_ f_ g_ hbX
      by_cases h16 : 16 < k + 1
      · have HF : Hid (r = false) := by
          show _ = _
          rw [← HR.out]
          exact mayRo_no_cnt i (i + 1) hil (by rw [HE.out, hcn]; exact h16)
        have h17 : (16 : Int) < ((k + 1 : Nat) : Int) := by omega
        have h18 : decide ((16 : Int) < ((k + 1 : Nat) : Int)) = true := decide_eq_true h17
        clear hcn
        go_wp2
        go_ret
        rw [HF.out]
        exact ⟨rfl, D⟩
      have h17 : ¬ (16 : Int) < ((k + 1 : Nat) : Int) := by omega
      have h18 : decide ((16 : Int) < ((k + 1 : Nat) : Int)) = false := decide_eq_false h17
      have HC2 : Hid (∀ o, cntL ((l.take (i + 1)).map En.o) o ≤ 16) := fun o => by
        by_cases ho : a_ = o
        · subst ho; rw [hcn]; omega
        · rw [HTK.out, cntL_snoc, if_neg ho]; exact HC.out o
      clear hcn h16 HK0
      have hcd : condRo l l[i] = (isName a_ && (isName b_ && (!decide (a_ = b_) && (hasRo l b_ a_ && (fitI ⟨c_, d_, e_, f_, g_⟩ (getRo l b_ a_) && !(emptyI ⟨c_, d_, e_, f_, g_⟩ && emptyI (getRo l b_ a_))))))) := by rw [HE.out]; rfl
      have HCD := Lib.hid hcd
      clear hcd
      obtain ⟨n1, hn1⟩ : ∃ b, isName a_ = b := ⟨_, rfl⟩
      have HNa_ := Lib.hid hn1
      clear hn1
      cases n1 with
      | false =>
        have HF : Hid (r = false) := by
          show _ = _
          rw [← HR.out]
          exact mayRo_no_cond i hil (by rw [HCD.out, HNa_.out]; rfl)
        clear uz
        replace hbX : w2.drew.heap[_]? = _ := hbX
        replace CM : CntMap w2.drew _ _ _ := CM
        replace D : Below _ _ w2.drew := D.drew
        go_wp2_with fail
        refine Held.start (ops := opsja) (S := fun w' => w'.cell? ⟨wr.heap.size, 0, none⟩ = some (.string a_) ∧ w'.cell? ⟨wr.heap.size, 1, none⟩ = some (.string b_) ∧ w'.cell? ⟨wr.heap.size, 2, none⟩ = some (.bool c_) ∧ w'.cell? ⟨wr.heap.size, 3, none⟩ = some (.bool d_) ∧ w'.cell? ⟨wr.heap.size, 4, none⟩ = some (.bool e_) ∧ w'.cell? ⟨wr.heap.size, 5, none⟩ = some (.bool f_) ∧ w'.cell? ⟨wr.heap.size, 6, none⟩ = some (.bool g_)) ordja 33 (by kernel_rfl) sizja (by kernel_rfl) ⟨u0, u1, u2, u3, u4, u5, u6⟩ (fun hHeld => ?_)
        refine Held.take (k := 0) (i := 0) (v := ?vja0) nosja okkja_0 sizja (by kernel_rfl) rfl (fun _ _ _ h => h) (Or.inl ⟨by kernel_rfl, ?hyja0⟩) (by assumption) ?restja0
        case hyja0 => (intro w hSw; (try dsimp only at hSw); go_simp; (try (first | with_reducible rfl | rw [if_neg (by omega)])))
        try simp only [Act.put, List.getElem_toArray, List.getElem_cons_succ, List.getElem_cons_zero, List.setIfInBounds_toArray, List.set_cons_zero, List.set_cons_succ]
        refine Held.take (k := 1) (i := 1) (v := ?vja1) nosja okkja_1 sizja (by kernel_rfl) rfl (fun _ _ _ h => h) (Or.inl ⟨by kernel_rfl, ?hyja1⟩) (by assumption) ?restja1
        case hyja1 => (intro w hSw; (try dsimp only at hSw); go_simp; (try (first | with_reducible rfl | rw [if_neg (by omega)])))
        try simp only [Act.put, List.getElem_toArray, List.getElem_cons_succ, List.getElem_cons_zero, List.setIfInBounds_toArray, List.set_cons_zero, List.set_cons_succ]
        refine Held.only (k := 2) (i := 2) rdyja_2 (by kernel_rfl) rfl (by kernel_rfl) (fun K hK => ?_)
        go_simp
        go_at_call 35
        with_reducible refine (re_ (Is_calls a_ _ (by omega)) (ret_bool HNa_.out)).mono ?_
        rintro e w3 ⟨rfl, hbx⟩
        replace u0 := cell_below hbx u0
        replace u1 := cell_below hbx u1
        replace u2 := cell_below hbx u2
        replace u3 := cell_below hbx u3
        replace u4 := cell_below hbx u4
        replace u5 := cell_below hbx u5
        replace u6 := cell_below hbx u6
        replace hbX := hcall hbX hbx
        replace CM := CM.below hbx
        replace D := below_call D hbx
        refine hK.out _ _ (by (try dsimp only); (exact ⟨u0, u1, u2, u3, u4, u5, u6⟩)) (fun hHeld => ?_)
        clear hK K
        try simp only [Act.put, List.getElem_toArray, List.getElem_cons_succ, List.getElem_cons_zero, List.setIfInBounds_toArray, List.set_cons_zero, List.set_cons_succ]
        refine Held.take (k := 3) (i := 3) (v := ?vja3) nosja okkja_3 sizja (by kernel_rfl) rfl (fun _ _ _ h => h) (Or.inl ⟨by kernel_rfl, ?hyja3⟩) (by assumption) ?restja3
        case hyja3 => (intro w hSw; (try dsimp only at hSw); go_simp; (try (first | with_reducible rfl | rw [if_neg (by omega)])))
        try simp only [Act.put, List.getElem_toArray, List.getElem_cons_succ, List.getElem_cons_zero, List.setIfInBounds_toArray, List.set_cons_zero, List.set_cons_succ]
        refine Held.take (k := 4) (i := 4) (v := ?vja4) nosja okkja_4 sizja (by kernel_rfl) rfl (fun _ _ _ h => h) (Or.inl ⟨by kernel_rfl, ?hyja4⟩) (by assumption) ?restja4
        case hyja4 => (intro w hSw; (try dsimp only at hSw); go_simp; (try (first | with_reducible rfl | rw [if_neg (by omega)])))
        try simp only [Act.put, List.getElem_toArray, List.getElem_cons_succ, List.getElem_cons_zero, List.setIfInBounds_toArray, List.set_cons_zero, List.set_cons_succ]
        refine Held.take (k := 5) (i := 5) (v := undef) nosja okkja_5 sizja (by kernel_rfl) rfl (fun _ _ _ h => h) (Or.inr ⟨by kernel_rfl, rfl⟩) (by assumption) ?_
        try simp only [Act.put, List.getElem_toArray, List.getElem_cons_succ, List.getElem_cons_zero, List.setIfInBounds_toArray, List.set_cons_zero, List.set_cons_succ]
        refine Held.take (k := 6) (i := 6) (v := undef) nosja okkja_6 sizja (by kernel_rfl) rfl (fun _ _ _ h => h) (Or.inr ⟨by kernel_rfl, rfl⟩) (by assumption) ?_
        try simp only [Act.put, List.getElem_toArray, List.getElem_cons_succ, List.getElem_cons_zero, List.setIfInBounds_toArray, List.set_cons_zero, List.set_cons_succ]
        refine Held.take (k := 7) (i := 7) (v := undef) nosja okkja_7 sizja (by kernel_rfl) rfl (fun _ _ _ h => h) (Or.inr ⟨by kernel_rfl, rfl⟩) (by assumption) ?_
        try simp only [Act.put, List.getElem_toArray, List.getElem_cons_succ, List.getElem_cons_zero, List.setIfInBounds_toArray, List.set_cons_zero, List.set_cons_succ]
        refine Held.take (k := 8) (i := 8) (v := undef) nosja okkja_8 sizja (by kernel_rfl) rfl (fun _ _ _ h => h) (Or.inr ⟨by kernel_rfl, rfl⟩) (by assumption) ?_
        try simp only [Act.put, List.getElem_toArray, List.getElem_cons_succ, List.getElem_cons_zero, List.setIfInBounds_toArray, List.set_cons_zero, List.set_cons_succ]
        refine Held.take (k := 9) (i := 9) (v := ?vja9) nosja okkja_9 sizja (by kernel_rfl) rfl (fun _ _ _ h => h) (Or.inl ⟨by kernel_rfl, ?hyja9⟩) (by assumption) ?restja9
        case hyja9 => (intro w hSw; (try dsimp only at hSw); go_simp; (try (first | with_reducible rfl | rw [if_neg (by omega)])))
        try simp only [Act.put, List.getElem_toArray, List.getElem_cons_succ, List.getElem_cons_zero, List.setIfInBounds_toArray, List.set_cons_zero, List.set_cons_succ]
        refine Held.take (k := 10) (i := 10) (v := ?vja10) nosja okkja_10 sizja (by kernel_rfl) rfl (fun _ _ _ h => h) (Or.inl ⟨by kernel_rfl, ?hyja10⟩) (by assumption) ?restja10
        case hyja10 => (intro w hSw; (try dsimp only at hSw); go_simp; (try (first | with_reducible rfl | rw [if_neg (by omega)])))
        try simp only [Act.put, List.getElem_toArray, List.getElem_cons_succ, List.getElem_cons_zero, List.setIfInBounds_toArray, List.set_cons_zero, List.set_cons_succ]
        refine Held.take (k := 11) (i := 11) (v := undef) nosja okkja_11 sizja (by kernel_rfl) rfl (fun _ _ _ h => h) (Or.inr ⟨by kernel_rfl, rfl⟩) (by assumption) ?_
        try simp only [Act.put, List.getElem_toArray, List.getElem_cons_succ, List.getElem_cons_zero, List.setIfInBounds_toArray, List.set_cons_zero, List.set_cons_succ]
        refine Held.take (k := 12) (i := 12) (v := undef) nosja okkja_12 sizja (by kernel_rfl) rfl (fun _ _ _ h => h) (Or.inr ⟨by kernel_rfl, rfl⟩) (by assumption) ?_
        try simp only [Act.put, List.getElem_toArray, List.getElem_cons_succ, List.getElem_cons_zero, List.setIfInBounds_toArray, List.set_cons_zero, List.set_cons_succ]
        refine Held.take (k := 13) (i := 13) (v := undef) nosja okkja_13 sizja (by kernel_rfl) rfl (fun _ _ _ h => h) (Or.inr ⟨by kernel_rfl, rfl⟩) (by assumption) ?_
        try simp only [Act.put, List.getElem_toArray, List.getElem_cons_succ, List.getElem_cons_zero, List.setIfInBounds_toArray, List.set_cons_zero, List.set_cons_succ]
        refine Held.take (k := 14) (i := 14) (v := undef) nosja okkja_14 sizja (by kernel_rfl) rfl (fun _ _ _ h => h) (Or.inr ⟨by kernel_rfl, rfl⟩) (by assumption) ?_
        try simp only [Act.put, List.getElem_toArray, List.getElem_cons_succ, List.getElem_cons_zero, List.setIfInBounds_toArray, List.set_cons_zero, List.set_cons_succ]
        refine Held.take (k := 15) (i := 15) (v := undef) nosja okkja_15 sizja (by kernel_rfl) rfl (fun _ _ _ h => h) (Or.inr ⟨by kernel_rfl, rfl⟩) (by assumption) ?_
        try simp only [Act.put, List.getElem_toArray, List.getElem_cons_succ, List.getElem_cons_zero, List.setIfInBounds_toArray, List.set_cons_zero, List.set_cons_succ]
        refine Held.take (k := 16) (i := 16) (v := ?vja16) nosja okkja_16 sizja (by kernel_rfl) rfl (fun _ _ _ h => h) (Or.inl ⟨by kernel_rfl, ?hyja16⟩) (by assumption) ?restja16
        case hyja16 => (intro w hSw; (try dsimp only at hSw); go_simp; (try (first | with_reducible rfl | rw [if_neg (by omega)])))
        try simp only [Act.put, List.getElem_toArray, List.getElem_cons_succ, List.getElem_cons_zero, List.setIfInBounds_toArray, List.set_cons_zero, List.set_cons_succ]
        refine Held.take (k := 17) (i := 17) (v := ?vja17) nosja okkja_17 sizja (by kernel_rfl) rfl (fun _ _ _ h => h) (Or.inl ⟨by kernel_rfl, ?hyja17⟩) (by assumption) ?restja17
        case hyja17 => (intro w hSw; (try dsimp only at hSw); go_simp; (try (first | with_reducible rfl | rw [if_neg (by omega)])))
        try simp only [Act.put, List.getElem_toArray, List.getElem_cons_succ, List.getElem_cons_zero, List.setIfInBounds_toArray, List.set_cons_zero, List.set_cons_succ]
        refine Held.take (k := 18) (i := 18) (v := undef) nosja okkja_18 sizja (by kernel_rfl) rfl (fun _ _ _ h => h) (Or.inr ⟨by kernel_rfl, rfl⟩) (by assumption) ?_
        try simp only [Act.put, List.getElem_toArray, List.getElem_cons_succ, List.getElem_cons_zero, List.setIfInBounds_toArray, List.set_cons_zero, List.set_cons_succ]
        refine Held.take (k := 19) (i := 19) (v := undef) nosja okkja_19 sizja (by kernel_rfl) rfl (fun _ _ _ h => h) (Or.inr ⟨by kernel_rfl, rfl⟩) (by assumption) ?_
        try simp only [Act.put, List.getElem_toArray, List.getElem_cons_succ, List.getElem_cons_zero, List.setIfInBounds_toArray, List.set_cons_zero, List.set_cons_succ]
        refine Held.take (k := 20) (i := 20) (v := undef) nosja okkja_20 sizja (by kernel_rfl) rfl (fun _ _ _ h => h) (Or.inr ⟨by kernel_rfl, rfl⟩) (by assumption) ?_
        try simp only [Act.put, List.getElem_toArray, List.getElem_cons_succ, List.getElem_cons_zero, List.setIfInBounds_toArray, List.set_cons_zero, List.set_cons_succ]
        refine Held.take (k := 21) (i := 21) (v := undef) nosja okkja_21 sizja (by kernel_rfl) rfl (fun _ _ _ h => h) (Or.inr ⟨by kernel_rfl, rfl⟩) (by assumption) ?_
        try simp only [Act.put, List.getElem_toArray, List.getElem_cons_succ, List.getElem_cons_zero, List.setIfInBounds_toArray, List.set_cons_zero, List.set_cons_succ]
        refine Held.take (k := 22) (i := 22) (v := undef) nosja okkja_22 sizja (by kernel_rfl) rfl (fun _ _ _ h => h) (Or.inr ⟨by kernel_rfl, rfl⟩) (by assumption) ?_
        try simp only [Act.put, List.getElem_toArray, List.getElem_cons_succ, List.getElem_cons_zero, List.setIfInBounds_toArray, List.set_cons_zero, List.set_cons_succ]
        refine Held.take (k := 23) (i := 23) (v := undef) nosja okkja_23 sizja (by kernel_rfl) rfl (fun _ _ _ h => h) (Or.inr ⟨by kernel_rfl, rfl⟩) (by assumption) ?_
        try simp only [Act.put, List.getElem_toArray, List.getElem_cons_succ, List.getElem_cons_zero, List.setIfInBounds_toArray, List.set_cons_zero, List.set_cons_succ]
        refine Held.take (k := 24) (i := 24) (v := undef) nosja okkja_24 sizja (by kernel_rfl) rfl (fun _ _ _ h => h) (Or.inr ⟨by kernel_rfl, rfl⟩) (by assumption) ?_
        try simp only [Act.put, List.getElem_toArray, List.getElem_cons_succ, List.getElem_cons_zero, List.setIfInBounds_toArray, List.set_cons_zero, List.set_cons_succ]
        refine Held.take (k := 25) (i := 25) (v := undef) nosja okkja_25 sizja (by kernel_rfl) rfl (fun _ _ _ h => h) (Or.inr ⟨by kernel_rfl, rfl⟩) (by assumption) ?_
        try simp only [Act.put, List.getElem_toArray, List.getElem_cons_succ, List.getElem_cons_zero, List.setIfInBounds_toArray, List.set_cons_zero, List.set_cons_succ]
        refine Held.take (k := 26) (i := 26) (v := undef) nosja okkja_26 sizja (by kernel_rfl) rfl (fun _ _ _ h => h) (Or.inr ⟨by kernel_rfl, rfl⟩) (by assumption) ?_
        try simp only [Act.put, List.getElem_toArray, List.getElem_cons_succ, List.getElem_cons_zero, List.setIfInBounds_toArray, List.set_cons_zero, List.set_cons_succ]
        refine Held.take (k := 27) (i := 27) (v := undef) nosja okkja_27 sizja (by kernel_rfl) rfl (fun _ _ _ h => h) (Or.inr ⟨by kernel_rfl, rfl⟩) (by assumption) ?_
        try simp only [Act.put, List.getElem_toArray, List.getElem_cons_succ, List.getElem_cons_zero, List.setIfInBounds_toArray, List.set_cons_zero, List.set_cons_succ]
        refine Held.take (k := 28) (i := 28) (v := undef) nosja okkja_28 sizja (by kernel_rfl) rfl (fun _ _ _ h => h) (Or.inr ⟨by kernel_rfl, rfl⟩) (by assumption) ?_
        try simp only [Act.put, List.getElem_toArray, List.getElem_cons_succ, List.getElem_cons_zero, List.setIfInBounds_toArray, List.set_cons_zero, List.set_cons_succ]
        refine Held.take (k := 29) (i := 29) (v := undef) nosja okkja_29 sizja (by kernel_rfl) rfl (fun _ _ _ h => h) (Or.inr ⟨by kernel_rfl, rfl⟩) (by assumption) ?_
        try simp only [Act.put, List.getElem_toArray, List.getElem_cons_succ, List.getElem_cons_zero, List.setIfInBounds_toArray, List.set_cons_zero, List.set_cons_succ]
        refine Held.take (k := 30) (i := 30) (v := undef) nosja okkja_30 sizja (by kernel_rfl) rfl (fun _ _ _ h => h) (Or.inr ⟨by kernel_rfl, rfl⟩) (by assumption) ?_
        try simp only [Act.put, List.getElem_toArray, List.getElem_cons_succ, List.getElem_cons_zero, List.setIfInBounds_toArray, List.set_cons_zero, List.set_cons_succ]
        refine Held.take (k := 31) (i := 31) (v := undef) nosja okkja_31 sizja (by kernel_rfl) rfl (fun _ _ _ h => h) (Or.inr ⟨by kernel_rfl, rfl⟩) (by assumption) ?_
        try simp only [Act.put, List.getElem_toArray, List.getElem_cons_succ, List.getElem_cons_zero, List.setIfInBounds_toArray, List.set_cons_zero, List.set_cons_succ]
        refine Held.take (k := 32) (i := 32) (v := ?vja32) nosja okkja_32 sizja (by kernel_rfl) rfl (fun _ _ _ h => h) (Or.inl ⟨by kernel_rfl, ?hyja32⟩) (by assumption) ?restja32
        case hyja32 => (intro w hSw; (try dsimp only at hSw); go_simp; (try (first | with_reducible rfl | rw [if_neg (by omega)])))
        try simp only [Act.put, List.getElem_toArray, List.getElem_cons_succ, List.getElem_cons_zero, List.setIfInBounds_toArray, List.set_cons_zero, List.set_cons_succ]
        refine wpAnyH_done (by kernel_rfl) ?_ _
        clear u0 u1 u2 u3 u4 u5 u6
        clear CM
        go_wp2
        go_ret
        rw [HF.out]
        exact ⟨rfl, D⟩
      | true =>
      obtain ⟨n2, hn2⟩ : ∃ b, isName b_ = b := ⟨_, rfl⟩
      have HNb_ := Lib.hid hn2
      clear hn2
      cases n2 with
      | false =>
        have HF : Hid (r = false) := by
          show _ = _
          rw [← HR.out]
          exact mayRo_no_cond i hil (by rw [HCD.out, HNa_.out, HNb_.out]; rfl)
        clear uz
        replace hbX : w2.drew.heap[_]? = _ := hbX
        replace CM : CntMap w2.drew _ _ _ := CM
        replace D : Below _ _ w2.drew := D.drew
        go_wp2_with fail
        refine Held.start (ops := opsjb) (S := fun w' => w'.cell? ⟨wr.heap.size, 0, none⟩ = some (.string a_) ∧ w'.cell? ⟨wr.heap.size, 1, none⟩ = some (.string b_) ∧ w'.cell? ⟨wr.heap.size, 2, none⟩ = some (.bool c_) ∧ w'.cell? ⟨wr.heap.size, 3, none⟩ = some (.bool d_) ∧ w'.cell? ⟨wr.heap.size, 4, none⟩ = some (.bool e_) ∧ w'.cell? ⟨wr.heap.size, 5, none⟩ = some (.bool f_) ∧ w'.cell? ⟨wr.heap.size, 6, none⟩ = some (.bool g_)) ordjb 33 (by kernel_rfl) sizjb (by kernel_rfl) ⟨u0, u1, u2, u3, u4, u5, u6⟩ (fun hHeld => ?_)
        refine Held.take (k := 0) (i := 0) (v := ?vjb0) nosjb okkjb_0 sizjb (by kernel_rfl) rfl (fun _ _ _ h => h) (Or.inl ⟨by kernel_rfl, ?hyjb0⟩) (by assumption) ?restjb0
        case hyjb0 => (intro w hSw; (try dsimp only at hSw); go_simp; (try (first | with_reducible rfl | rw [if_neg (by omega)])))
        try simp only [Act.put, List.getElem_toArray, List.getElem_cons_succ, List.getElem_cons_zero, List.setIfInBounds_toArray, List.set_cons_zero, List.set_cons_succ]
        refine Held.take (k := 1) (i := 1) (v := ?vjb1) nosjb okkjb_1 sizjb (by kernel_rfl) rfl (fun _ _ _ h => h) (Or.inl ⟨by kernel_rfl, ?hyjb1⟩) (by assumption) ?restjb1
        case hyjb1 => (intro w hSw; (try dsimp only at hSw); go_simp; (try (first | with_reducible rfl | rw [if_neg (by omega)])))
        try simp only [Act.put, List.getElem_toArray, List.getElem_cons_succ, List.getElem_cons_zero, List.setIfInBounds_toArray, List.set_cons_zero, List.set_cons_succ]
        refine Held.only (k := 2) (i := 2) rdyjb_2 (by kernel_rfl) rfl (by kernel_rfl) (fun K hK => ?_)
        go_simp
        go_at_call 35
        with_reducible refine (re_ (Is_calls a_ _ (by omega)) (ret_bool HNa_.out)).mono ?_
        rintro e w3 ⟨rfl, hbx⟩
        replace u0 := cell_below hbx u0
        replace u1 := cell_below hbx u1
        replace u2 := cell_below hbx u2
        replace u3 := cell_below hbx u3
        replace u4 := cell_below hbx u4
        replace u5 := cell_below hbx u5
        replace u6 := cell_below hbx u6
        replace hbX := hcall hbX hbx
        replace CM := CM.below hbx
        replace D := below_call D hbx
        refine hK.out _ _ (by (try dsimp only); (exact ⟨u0, u1, u2, u3, u4, u5, u6⟩)) (fun hHeld => ?_)
        clear hK K
        try simp only [Act.put, List.getElem_toArray, List.getElem_cons_succ, List.getElem_cons_zero, List.setIfInBounds_toArray, List.set_cons_zero, List.set_cons_succ]
        refine Held.take (k := 3) (i := 3) (v := ?vjb3) nosjb okkjb_3 sizjb (by kernel_rfl) rfl (fun _ _ _ h => h) (Or.inl ⟨by kernel_rfl, ?hyjb3⟩) (by assumption) ?restjb3
        case hyjb3 => (intro w hSw; (try dsimp only at hSw); go_simp; (try (first | with_reducible rfl | rw [if_neg (by omega)])))
        try simp only [Act.put, List.getElem_toArray, List.getElem_cons_succ, List.getElem_cons_zero, List.setIfInBounds_toArray, List.set_cons_zero, List.set_cons_succ]
        refine Held.take (k := 4) (i := 4) (v := ?vjb4) nosjb okkjb_4 sizjb (by kernel_rfl) rfl (fun _ _ _ h => h) (Or.inl ⟨by kernel_rfl, ?hyjb4⟩) (by assumption) ?restjb4
        case hyjb4 => (intro w hSw; (try dsimp only at hSw); go_simp; (try (first | with_reducible rfl | rw [if_neg (by omega)])))
        try simp only [Act.put, List.getElem_toArray, List.getElem_cons_succ, List.getElem_cons_zero, List.setIfInBounds_toArray, List.set_cons_zero, List.set_cons_succ]
        refine Held.take (k := 5) (i := 5) (v := ?vjb5) nosjb okkjb_5 sizjb (by kernel_rfl) rfl (fun _ _ _ h => h) (Or.inl ⟨by kernel_rfl, ?hyjb5⟩) (by assumption) ?restjb5
        case hyjb5 => (intro w hSw; (try dsimp only at hSw); go_simp; (try (first | with_reducible rfl | rw [if_neg (by omega)])))
        try simp only [Act.put, List.getElem_toArray, List.getElem_cons_succ, List.getElem_cons_zero, List.setIfInBounds_toArray, List.set_cons_zero, List.set_cons_succ]
        refine Held.take (k := 6) (i := 6) (v := ?vjb6) nosjb okkjb_6 sizjb (by kernel_rfl) rfl (fun _ _ _ h => h) (Or.inl ⟨by kernel_rfl, ?hyjb6⟩) (by assumption) ?restjb6
        case hyjb6 => (intro w hSw; (try dsimp only at hSw); go_simp; (try (first | with_reducible rfl | rw [if_neg (by omega)])))
        try simp only [Act.put, List.getElem_toArray, List.getElem_cons_succ, List.getElem_cons_zero, List.setIfInBounds_toArray, List.set_cons_zero, List.set_cons_succ]
        refine Held.only (k := 7) (i := 7) rdyjb_7 (by kernel_rfl) rfl (by kernel_rfl) (fun K hK => ?_)
        go_simp
        go_at_call 35
        with_reducible refine (re_ (Is_calls b_ _ (by omega)) (ret_bool HNb_.out)).mono ?_
        rintro e w4 ⟨rfl, hbx⟩
        replace u0 := cell_below hbx u0
        replace u1 := cell_below hbx u1
        replace u2 := cell_below hbx u2
        replace u3 := cell_below hbx u3
        replace u4 := cell_below hbx u4
        replace u5 := cell_below hbx u5
        replace u6 := cell_below hbx u6
        replace hbX := hcall hbX hbx
        replace CM := CM.below hbx
        replace D := below_call D hbx
        refine hK.out _ _ (by (try dsimp only); (exact ⟨u0, u1, u2, u3, u4, u5, u6⟩)) (fun hHeld => ?_)
        clear hK K
        try simp only [Act.put, List.getElem_toArray, List.getElem_cons_succ, List.getElem_cons_zero, List.setIfInBounds_toArray, List.set_cons_zero, List.set_cons_succ]
        refine Held.take (k := 8) (i := 8) (v := ?vjb8) nosjb okkjb_8 sizjb (by kernel_rfl) rfl (fun _ _ _ h => h) (Or.inl ⟨by kernel_rfl, ?hyjb8⟩) (by assumption) ?restjb8
        case hyjb8 => (intro w hSw; (try dsimp only at hSw); go_simp; (try (first | with_reducible rfl | rw [if_neg (by omega)])))
        try simp only [Act.put, List.getElem_toArray, List.getElem_cons_succ, List.getElem_cons_zero, List.setIfInBounds_toArray, List.set_cons_zero, List.set_cons_succ]
        refine Held.take (k := 9) (i := 9) (v := ?vjb9) nosjb okkjb_9 sizjb (by kernel_rfl) rfl (fun _ _ _ h => h) (Or.inl ⟨by kernel_rfl, ?hyjb9⟩) (by assumption) ?restjb9
        case hyjb9 => (intro w hSw; (try dsimp only at hSw); go_simp; (try (first | with_reducible rfl | rw [if_neg (by omega)])))
        try simp only [Act.put, List.getElem_toArray, List.getElem_cons_succ, List.getElem_cons_zero, List.setIfInBounds_toArray, List.set_cons_zero, List.set_cons_succ]
        refine Held.take (k := 10) (i := 10) (v := ?vjb10) nosjb okkjb_10 sizjb (by kernel_rfl) rfl (fun _ _ _ h => h) (Or.inl ⟨by kernel_rfl, ?hyjb10⟩) (by assumption) ?restjb10
        case hyjb10 => (intro w hSw; (try dsimp only at hSw); go_simp; (try (first | with_reducible rfl | rw [if_neg (by omega)])))
        try simp only [Act.put, List.getElem_toArray, List.getElem_cons_succ, List.getElem_cons_zero, List.setIfInBounds_toArray, List.set_cons_zero, List.set_cons_succ]
        refine Held.take (k := 11) (i := 11) (v := undef) nosjb okkjb_11 sizjb (by kernel_rfl) rfl (fun _ _ _ h => h) (Or.inr ⟨by kernel_rfl, rfl⟩) (by assumption) ?_
        try simp only [Act.put, List.getElem_toArray, List.getElem_cons_succ, List.getElem_cons_zero, List.setIfInBounds_toArray, List.set_cons_zero, List.set_cons_succ]
        refine Held.take (k := 12) (i := 12) (v := undef) nosjb okkjb_12 sizjb (by kernel_rfl) rfl (fun _ _ _ h => h) (Or.inr ⟨by kernel_rfl, rfl⟩) (by assumption) ?_
        try simp only [Act.put, List.getElem_toArray, List.getElem_cons_succ, List.getElem_cons_zero, List.setIfInBounds_toArray, List.set_cons_zero, List.set_cons_succ]
        refine Held.take (k := 13) (i := 13) (v := undef) nosjb okkjb_13 sizjb (by kernel_rfl) rfl (fun _ _ _ h => h) (Or.inr ⟨by kernel_rfl, rfl⟩) (by assumption) ?_
        try simp only [Act.put, List.getElem_toArray, List.getElem_cons_succ, List.getElem_cons_zero, List.setIfInBounds_toArray, List.set_cons_zero, List.set_cons_succ]
        refine Held.take (k := 14) (i := 14) (v := undef) nosjb okkjb_14 sizjb (by kernel_rfl) rfl (fun _ _ _ h => h) (Or.inr ⟨by kernel_rfl, rfl⟩) (by assumption) ?_
        try simp only [Act.put, List.getElem_toArray, List.getElem_cons_succ, List.getElem_cons_zero, List.setIfInBounds_toArray, List.set_cons_zero, List.set_cons_succ]
        refine Held.take (k := 15) (i := 15) (v := undef) nosjb okkjb_15 sizjb (by kernel_rfl) rfl (fun _ _ _ h => h) (Or.inr ⟨by kernel_rfl, rfl⟩) (by assumption) ?_
        try simp only [Act.put, List.getElem_toArray, List.getElem_cons_succ, List.getElem_cons_zero, List.setIfInBounds_toArray, List.set_cons_zero, List.set_cons_succ]
        refine Held.take (k := 16) (i := 16) (v := ?vjb16) nosjb okkjb_16 sizjb (by kernel_rfl) rfl (fun _ _ _ h => h) (Or.inl ⟨by kernel_rfl, ?hyjb16⟩) (by assumption) ?restjb16
        case hyjb16 => (intro w hSw; (try dsimp only at hSw); go_simp; (try (first | with_reducible rfl | rw [if_neg (by omega)])))
        try simp only [Act.put, List.getElem_toArray, List.getElem_cons_succ, List.getElem_cons_zero, List.setIfInBounds_toArray, List.set_cons_zero, List.set_cons_succ]
        refine Held.take (k := 17) (i := 17) (v := ?vjb17) nosjb okkjb_17 sizjb (by kernel_rfl) rfl (fun _ _ _ h => h) (Or.inl ⟨by kernel_rfl, ?hyjb17⟩) (by assumption) ?restjb17
        case hyjb17 => (intro w hSw; (try dsimp only at hSw); go_simp; (try (first | with_reducible rfl | rw [if_neg (by omega)])))
        try simp only [Act.put, List.getElem_toArray, List.getElem_cons_succ, List.getElem_cons_zero, List.setIfInBounds_toArray, List.set_cons_zero, List.set_cons_succ]
        refine Held.take (k := 18) (i := 18) (v := undef) nosjb okkjb_18 sizjb (by kernel_rfl) rfl (fun _ _ _ h => h) (Or.inr ⟨by kernel_rfl, rfl⟩) (by assumption) ?_
        try simp only [Act.put, List.getElem_toArray, List.getElem_cons_succ, List.getElem_cons_zero, List.setIfInBounds_toArray, List.set_cons_zero, List.set_cons_succ]
        refine Held.take (k := 19) (i := 19) (v := undef) nosjb okkjb_19 sizjb (by kernel_rfl) rfl (fun _ _ _ h => h) (Or.inr ⟨by kernel_rfl, rfl⟩) (by assumption) ?_
        try simp only [Act.put, List.getElem_toArray, List.getElem_cons_succ, List.getElem_cons_zero, List.setIfInBounds_toArray, List.set_cons_zero, List.set_cons_succ]
        refine Held.take (k := 20) (i := 20) (v := undef) nosjb okkjb_20 sizjb (by kernel_rfl) rfl (fun _ _ _ h => h) (Or.inr ⟨by kernel_rfl, rfl⟩) (by assumption) ?_
        try simp only [Act.put, List.getElem_toArray, List.getElem_cons_succ, List.getElem_cons_zero, List.setIfInBounds_toArray, List.set_cons_zero, List.set_cons_succ]
        refine Held.take (k := 21) (i := 21) (v := undef) nosjb okkjb_21 sizjb (by kernel_rfl) rfl (fun _ _ _ h => h) (Or.inr ⟨by kernel_rfl, rfl⟩) (by assumption) ?_
        try simp only [Act.put, List.getElem_toArray, List.getElem_cons_succ, List.getElem_cons_zero, List.setIfInBounds_toArray, List.set_cons_zero, List.set_cons_succ]
        refine Held.take (k := 22) (i := 22) (v := undef) nosjb okkjb_22 sizjb (by kernel_rfl) rfl (fun _ _ _ h => h) (Or.inr ⟨by kernel_rfl, rfl⟩) (by assumption) ?_
        try simp only [Act.put, List.getElem_toArray, List.getElem_cons_succ, List.getElem_cons_zero, List.setIfInBounds_toArray, List.set_cons_zero, List.set_cons_succ]
        refine Held.take (k := 23) (i := 23) (v := undef) nosjb okkjb_23 sizjb (by kernel_rfl) rfl (fun _ _ _ h => h) (Or.inr ⟨by kernel_rfl, rfl⟩) (by assumption) ?_
        try simp only [Act.put, List.getElem_toArray, List.getElem_cons_succ, List.getElem_cons_zero, List.setIfInBounds_toArray, List.set_cons_zero, List.set_cons_succ]
        refine Held.take (k := 24) (i := 24) (v := undef) nosjb okkjb_24 sizjb (by kernel_rfl) rfl (fun _ _ _ h => h) (Or.inr ⟨by kernel_rfl, rfl⟩) (by assumption) ?_
        try simp only [Act.put, List.getElem_toArray, List.getElem_cons_succ, List.getElem_cons_zero, List.setIfInBounds_toArray, List.set_cons_zero, List.set_cons_succ]
        refine Held.take (k := 25) (i := 25) (v := undef) nosjb okkjb_25 sizjb (by kernel_rfl) rfl (fun _ _ _ h => h) (Or.inr ⟨by kernel_rfl, rfl⟩) (by assumption) ?_
        try simp only [Act.put, List.getElem_toArray, List.getElem_cons_succ, List.getElem_cons_zero, List.setIfInBounds_toArray, List.set_cons_zero, List.set_cons_succ]
        refine Held.take (k := 26) (i := 26) (v := undef) nosjb okkjb_26 sizjb (by kernel_rfl) rfl (fun _ _ _ h => h) (Or.inr ⟨by kernel_rfl, rfl⟩) (by assumption) ?_
        try simp only [Act.put, List.getElem_toArray, List.getElem_cons_succ, List.getElem_cons_zero, List.setIfInBounds_toArray, List.set_cons_zero, List.set_cons_succ]
        refine Held.take (k := 27) (i := 27) (v := undef) nosjb okkjb_27 sizjb (by kernel_rfl) rfl (fun _ _ _ h => h) (Or.inr ⟨by kernel_rfl, rfl⟩) (by assumption) ?_
        try simp only [Act.put, List.getElem_toArray, List.getElem_cons_succ, List.getElem_cons_zero, List.setIfInBounds_toArray, List.set_cons_zero, List.set_cons_succ]
        refine Held.take (k := 28) (i := 28) (v := undef) nosjb okkjb_28 sizjb (by kernel_rfl) rfl (fun _ _ _ h => h) (Or.inr ⟨by kernel_rfl, rfl⟩) (by assumption) ?_
        try simp only [Act.put, List.getElem_toArray, List.getElem_cons_succ, List.getElem_cons_zero, List.setIfInBounds_toArray, List.set_cons_zero, List.set_cons_succ]
        refine Held.take (k := 29) (i := 29) (v := undef) nosjb okkjb_29 sizjb (by kernel_rfl) rfl (fun _ _ _ h => h) (Or.inr ⟨by kernel_rfl, rfl⟩) (by assumption) ?_
        try simp only [Act.put, List.getElem_toArray, List.getElem_cons_succ, List.getElem_cons_zero, List.setIfInBounds_toArray, List.set_cons_zero, List.set_cons_succ]
        refine Held.take (k := 30) (i := 30) (v := undef) nosjb okkjb_30 sizjb (by kernel_rfl) rfl (fun _ _ _ h => h) (Or.inr ⟨by kernel_rfl, rfl⟩) (by assumption) ?_
        try simp only [Act.put, List.getElem_toArray, List.getElem_cons_succ, List.getElem_cons_zero, List.setIfInBounds_toArray, List.set_cons_zero, List.set_cons_succ]
        refine Held.take (k := 31) (i := 31) (v := undef) nosjb okkjb_31 sizjb (by kernel_rfl) rfl (fun _ _ _ h => h) (Or.inr ⟨by kernel_rfl, rfl⟩) (by assumption) ?_
        try simp only [Act.put, List.getElem_toArray, List.getElem_cons_succ, List.getElem_cons_zero, List.setIfInBounds_toArray, List.set_cons_zero, List.set_cons_succ]
        refine Held.take (k := 32) (i := 32) (v := ?vjb32) nosjb okkjb_32 sizjb (by kernel_rfl) rfl (fun _ _ _ h => h) (Or.inl ⟨by kernel_rfl, ?hyjb32⟩) (by assumption) ?restjb32
        case hyjb32 => (intro w hSw; (try dsimp only at hSw); go_simp; (try (first | with_reducible rfl | rw [if_neg (by omega)])))
        try simp only [Act.put, List.getElem_toArray, List.getElem_cons_succ, List.getElem_cons_zero, List.setIfInBounds_toArray, List.set_cons_zero, List.set_cons_succ]
        refine wpAnyH_done (by kernel_rfl) ?_ _
        clear u0 u1 u2 u3 u4 u5 u6
        clear CM
        go_wp2
        go_ret
        rw [HF.out]
        exact ⟨rfl, D⟩
      | true =>
      by_cases hab : a_ = b_
      · have e1 : (a_.toList == b_.toList) = true := by rw [hab]; exact beq_self_eq_true _
        have HF : Hid (r = false) := by
          show _ = _
          rw [← HR.out]
          exact mayRo_no_cond i hil (by rw [HCD.out, decide_eq_true hab]; cases isName a_ <;> cases isName b_ <;> rfl)
        clear hab
        clear uz
        replace hbX : w2.drew.heap[_]? = _ := hbX
        replace CM : CntMap w2.drew _ _ _ := CM
        replace D : Below _ _ w2.drew := D.drew
        go_wp2_with fail
        refine Held.start (ops := opsjc) (S := fun w' => w'.cell? ⟨wr.heap.size, 0, none⟩ = some (.string a_) ∧ w'.cell? ⟨wr.heap.size, 1, none⟩ = some (.string b_) ∧ w'.cell? ⟨wr.heap.size, 2, none⟩ = some (.bool c_) ∧ w'.cell? ⟨wr.heap.size, 3, none⟩ = some (.bool d_) ∧ w'.cell? ⟨wr.heap.size, 4, none⟩ = some (.bool e_) ∧ w'.cell? ⟨wr.heap.size, 5, none⟩ = some (.bool f_) ∧ w'.cell? ⟨wr.heap.size, 6, none⟩ = some (.bool g_)) ordjc 33 (by kernel_rfl) sizjc (by kernel_rfl) ⟨u0, u1, u2, u3, u4, u5, u6⟩ (fun hHeld => ?_)
        refine Held.take (k := 0) (i := 0) (v := ?vjc0) nosjc okkjc_0 sizjc (by kernel_rfl) rfl (fun _ _ _ h => h) (Or.inl ⟨by kernel_rfl, ?hyjc0⟩) (by assumption) ?restjc0
        case hyjc0 => (intro w hSw; (try dsimp only at hSw); go_simp; (try (first | with_reducible rfl | rw [if_neg (by omega)])))
        try simp only [Act.put, List.getElem_toArray, List.getElem_cons_succ, List.getElem_cons_zero, List.setIfInBounds_toArray, List.set_cons_zero, List.set_cons_succ]
        refine Held.take (k := 1) (i := 1) (v := ?vjc1) nosjc okkjc_1 sizjc (by kernel_rfl) rfl (fun _ _ _ h => h) (Or.inl ⟨by kernel_rfl, ?hyjc1⟩) (by assumption) ?restjc1
        case hyjc1 => (intro w hSw; (try dsimp only at hSw); go_simp; (try (first | with_reducible rfl | rw [if_neg (by omega)])))
        try simp only [Act.put, List.getElem_toArray, List.getElem_cons_succ, List.getElem_cons_zero, List.setIfInBounds_toArray, List.set_cons_zero, List.set_cons_succ]
        refine Held.only (k := 2) (i := 2) rdyjc_2 (by kernel_rfl) rfl (by kernel_rfl) (fun K hK => ?_)
        go_simp
        go_at_call 35
        with_reducible refine (re_ (Is_calls a_ _ (by omega)) (ret_bool HNa_.out)).mono ?_
        rintro e w3 ⟨rfl, hbx⟩
        replace u0 := cell_below hbx u0
        replace u1 := cell_below hbx u1
        replace u2 := cell_below hbx u2
        replace u3 := cell_below hbx u3
        replace u4 := cell_below hbx u4
        replace u5 := cell_below hbx u5
        replace u6 := cell_below hbx u6
        replace hbX := hcall hbX hbx
        replace CM := CM.below hbx
        replace D := below_call D hbx
        refine hK.out _ _ (by (try dsimp only); (exact ⟨u0, u1, u2, u3, u4, u5, u6⟩)) (fun hHeld => ?_)
        clear hK K
        try simp only [Act.put, List.getElem_toArray, List.getElem_cons_succ, List.getElem_cons_zero, List.setIfInBounds_toArray, List.set_cons_zero, List.set_cons_succ]
        refine Held.take (k := 3) (i := 3) (v := ?vjc3) nosjc okkjc_3 sizjc (by kernel_rfl) rfl (fun _ _ _ h => h) (Or.inl ⟨by kernel_rfl, ?hyjc3⟩) (by assumption) ?restjc3
        case hyjc3 => (intro w hSw; (try dsimp only at hSw); go_simp; (try (first | with_reducible rfl | rw [if_neg (by omega)])))
        try simp only [Act.put, List.getElem_toArray, List.getElem_cons_succ, List.getElem_cons_zero, List.setIfInBounds_toArray, List.set_cons_zero, List.set_cons_succ]
        refine Held.take (k := 4) (i := 4) (v := ?vjc4) nosjc okkjc_4 sizjc (by kernel_rfl) rfl (fun _ _ _ h => h) (Or.inl ⟨by kernel_rfl, ?hyjc4⟩) (by assumption) ?restjc4
        case hyjc4 => (intro w hSw; (try dsimp only at hSw); go_simp; (try (first | with_reducible rfl | rw [if_neg (by omega)])))
        try simp only [Act.put, List.getElem_toArray, List.getElem_cons_succ, List.getElem_cons_zero, List.setIfInBounds_toArray, List.set_cons_zero, List.set_cons_succ]
        refine Held.take (k := 5) (i := 5) (v := ?vjc5) nosjc okkjc_5 sizjc (by kernel_rfl) rfl (fun _ _ _ h => h) (Or.inl ⟨by kernel_rfl, ?hyjc5⟩) (by assumption) ?restjc5
        case hyjc5 => (intro w hSw; (try dsimp only at hSw); go_simp; (try (first | with_reducible rfl | rw [if_neg (by omega)])))
        try simp only [Act.put, List.getElem_toArray, List.getElem_cons_succ, List.getElem_cons_zero, List.setIfInBounds_toArray, List.set_cons_zero, List.set_cons_succ]
        refine Held.take (k := 6) (i := 6) (v := ?vjc6) nosjc okkjc_6 sizjc (by kernel_rfl) rfl (fun _ _ _ h => h) (Or.inl ⟨by kernel_rfl, ?hyjc6⟩) (by assumption) ?restjc6
        case hyjc6 => (intro w hSw; (try dsimp only at hSw); go_simp; (try (first | with_reducible rfl | rw [if_neg (by omega)])))
        try simp only [Act.put, List.getElem_toArray, List.getElem_cons_succ, List.getElem_cons_zero, List.setIfInBounds_toArray, List.set_cons_zero, List.set_cons_succ]
        refine Held.only (k := 7) (i := 7) rdyjc_7 (by kernel_rfl) rfl (by kernel_rfl) (fun K hK => ?_)
        go_simp
        go_at_call 35
        with_reducible refine (re_ (Is_calls b_ _ (by omega)) (ret_bool HNb_.out)).mono ?_
        rintro e w4 ⟨rfl, hbx⟩
        replace u0 := cell_below hbx u0
        replace u1 := cell_below hbx u1
        replace u2 := cell_below hbx u2
        replace u3 := cell_below hbx u3
        replace u4 := cell_below hbx u4
        replace u5 := cell_below hbx u5
        replace u6 := cell_below hbx u6
        replace hbX := hcall hbX hbx
        replace CM := CM.below hbx
        replace D := below_call D hbx
        refine hK.out _ _ (by (try dsimp only); (exact ⟨u0, u1, u2, u3, u4, u5, u6⟩)) (fun hHeld => ?_)
        clear hK K
        try simp only [Act.put, List.getElem_toArray, List.getElem_cons_succ, List.getElem_cons_zero, List.setIfInBounds_toArray, List.set_cons_zero, List.set_cons_succ]
        refine Held.take (k := 8) (i := 8) (v := ?vjc8) nosjc okkjc_8 sizjc (by kernel_rfl) rfl (fun _ _ _ h => h) (Or.inl ⟨by kernel_rfl, ?hyjc8⟩) (by assumption) ?restjc8
        case hyjc8 => (intro w hSw; (try dsimp only at hSw); go_simp; (try (first | with_reducible rfl | rw [if_neg (by omega)])))
        try simp only [Act.put, List.getElem_toArray, List.getElem_cons_succ, List.getElem_cons_zero, List.setIfInBounds_toArray, List.set_cons_zero, List.set_cons_succ]
        refine Held.take (k := 9) (i := 9) (v := ?vjc9) nosjc okkjc_9 sizjc (by kernel_rfl) rfl (fun _ _ _ h => h) (Or.inl ⟨by kernel_rfl, ?hyjc9⟩) (by assumption) ?restjc9
        case hyjc9 => (intro w hSw; (try dsimp only at hSw); go_simp; (try (first | with_reducible rfl | rw [if_neg (by omega)])))
        try simp only [Act.put, List.getElem_toArray, List.getElem_cons_succ, List.getElem_cons_zero, List.setIfInBounds_toArray, List.set_cons_zero, List.set_cons_succ]
        refine Held.take (k := 10) (i := 10) (v := ?vjc10) nosjc okkjc_10 sizjc (by kernel_rfl) rfl (fun _ _ _ h => h) (Or.inl ⟨by kernel_rfl, ?hyjc10⟩) (by assumption) ?restjc10
        case hyjc10 => (intro w hSw; (try dsimp only at hSw); go_simp; (try (first | with_reducible rfl | rw [if_neg (by omega)])))
        try simp only [Act.put, List.getElem_toArray, List.getElem_cons_succ, List.getElem_cons_zero, List.setIfInBounds_toArray, List.set_cons_zero, List.set_cons_succ]
        refine Held.take (k := 11) (i := 11) (v := ?vjc11) nosjc okkjc_11 sizjc (by kernel_rfl) rfl (fun _ _ _ h => h) (Or.inl ⟨by kernel_rfl, ?hyjc11⟩) (by assumption) ?restjc11
        case hyjc11 => (intro w hSw; (try dsimp only at hSw); go_simp; (try (first | with_reducible rfl | rw [if_neg (by omega)])))
        try simp only [Act.put, List.getElem_toArray, List.getElem_cons_succ, List.getElem_cons_zero, List.setIfInBounds_toArray, List.set_cons_zero, List.set_cons_succ]
        refine Held.take (k := 12) (i := 12) (v := ?vjc12) nosjc okkjc_12 sizjc (by kernel_rfl) rfl (fun _ _ _ h => h) (Or.inl ⟨by kernel_rfl, ?hyjc12⟩) (by assumption) ?restjc12
        case hyjc12 => (intro w hSw; (try dsimp only at hSw); go_simp; (try (first | with_reducible rfl | rw [if_neg (by omega)])))
        try simp only [Act.put, List.getElem_toArray, List.getElem_cons_succ, List.getElem_cons_zero, List.setIfInBounds_toArray, List.set_cons_zero, List.set_cons_succ]
        refine Held.take (k := 13) (i := 13) (v := ?vjc13) nosjc okkjc_13 sizjc (by kernel_rfl) rfl (fun _ _ _ h => h) (Or.inl ⟨by kernel_rfl, ?hyjc13⟩) (by assumption) ?restjc13
        case hyjc13 => (intro w hSw; (try dsimp only at hSw); go_simp; (try (first | with_reducible rfl | rw [if_neg (by omega)])))
        try simp only [Act.put, List.getElem_toArray, List.getElem_cons_succ, List.getElem_cons_zero, List.setIfInBounds_toArray, List.set_cons_zero, List.set_cons_succ]
        refine Held.take (k := 14) (i := 14) (v := ?vjc14) nosjc okkjc_14 sizjc (by kernel_rfl) rfl (fun _ _ _ h => h) (Or.inl ⟨by kernel_rfl, ?hyjc14⟩) (by assumption) ?restjc14
        case hyjc14 => (intro w hSw; (try dsimp only at hSw); go_simp; (try (first | with_reducible rfl | rw [if_neg (by omega)])))
        try simp only [Act.put, List.getElem_toArray, List.getElem_cons_succ, List.getElem_cons_zero, List.setIfInBounds_toArray, List.set_cons_zero, List.set_cons_succ]
        refine Held.take (k := 15) (i := 15) (v := ?vjc15) nosjc okkjc_15 sizjc (by kernel_rfl) rfl (fun _ _ _ h => h) (Or.inl ⟨by kernel_rfl, ?hyjc15⟩) (by assumption) ?restjc15
        case hyjc15 => (intro w hSw; (try dsimp only at hSw); go_simp; (try (first | with_reducible rfl | rw [if_neg (by omega)])))
        try simp only [Act.put, List.getElem_toArray, List.getElem_cons_succ, List.getElem_cons_zero, List.setIfInBounds_toArray, List.set_cons_zero, List.set_cons_succ]
        refine Held.take (k := 16) (i := 16) (v := ?vjc16) nosjc okkjc_16 sizjc (by kernel_rfl) rfl (fun _ _ _ h => h) (Or.inl ⟨by kernel_rfl, ?hyjc16⟩) (by assumption) ?restjc16
        case hyjc16 => (intro w hSw; (try dsimp only at hSw); go_simp; (try (first | with_reducible rfl | rw [if_neg (by omega)])))
        try simp only [Act.put, List.getElem_toArray, List.getElem_cons_succ, List.getElem_cons_zero, List.setIfInBounds_toArray, List.set_cons_zero, List.set_cons_succ]
        refine Held.take (k := 17) (i := 17) (v := ?vjc17) nosjc okkjc_17 sizjc (by kernel_rfl) rfl (fun _ _ _ h => h) (Or.inl ⟨by kernel_rfl, ?hyjc17⟩) (by assumption) ?restjc17
        case hyjc17 => (intro w hSw; (try dsimp only at hSw); go_simp; (try (first | with_reducible rfl | rw [if_neg (by omega)])))
        try simp only [Act.put, List.getElem_toArray, List.getElem_cons_succ, List.getElem_cons_zero, List.setIfInBounds_toArray, List.set_cons_zero, List.set_cons_succ]
        refine Held.take (k := 18) (i := 18) (v := undef) nosjc okkjc_18 sizjc (by kernel_rfl) rfl (fun _ _ _ h => h) (Or.inr ⟨by kernel_rfl, rfl⟩) (by assumption) ?_
        try simp only [Act.put, List.getElem_toArray, List.getElem_cons_succ, List.getElem_cons_zero, List.setIfInBounds_toArray, List.set_cons_zero, List.set_cons_succ]
        refine Held.take (k := 19) (i := 19) (v := undef) nosjc okkjc_19 sizjc (by kernel_rfl) rfl (fun _ _ _ h => h) (Or.inr ⟨by kernel_rfl, rfl⟩) (by assumption) ?_
        try simp only [Act.put, List.getElem_toArray, List.getElem_cons_succ, List.getElem_cons_zero, List.setIfInBounds_toArray, List.set_cons_zero, List.set_cons_succ]
        refine Held.take (k := 20) (i := 20) (v := undef) nosjc okkjc_20 sizjc (by kernel_rfl) rfl (fun _ _ _ h => h) (Or.inr ⟨by kernel_rfl, rfl⟩) (by assumption) ?_
        try simp only [Act.put, List.getElem_toArray, List.getElem_cons_succ, List.getElem_cons_zero, List.setIfInBounds_toArray, List.set_cons_zero, List.set_cons_succ]
        refine Held.take (k := 21) (i := 21) (v := undef) nosjc okkjc_21 sizjc (by kernel_rfl) rfl (fun _ _ _ h => h) (Or.inr ⟨by kernel_rfl, rfl⟩) (by assumption) ?_
        try simp only [Act.put, List.getElem_toArray, List.getElem_cons_succ, List.getElem_cons_zero, List.setIfInBounds_toArray, List.set_cons_zero, List.set_cons_succ]
        refine Held.take (k := 22) (i := 22) (v := undef) nosjc okkjc_22 sizjc (by kernel_rfl) rfl (fun _ _ _ h => h) (Or.inr ⟨by kernel_rfl, rfl⟩) (by assumption) ?_
        try simp only [Act.put, List.getElem_toArray, List.getElem_cons_succ, List.getElem_cons_zero, List.setIfInBounds_toArray, List.set_cons_zero, List.set_cons_succ]
        refine Held.take (k := 23) (i := 23) (v := undef) nosjc okkjc_23 sizjc (by kernel_rfl) rfl (fun _ _ _ h => h) (Or.inr ⟨by kernel_rfl, rfl⟩) (by assumption) ?_
        try simp only [Act.put, List.getElem_toArray, List.getElem_cons_succ, List.getElem_cons_zero, List.setIfInBounds_toArray, List.set_cons_zero, List.set_cons_succ]
        refine Held.take (k := 24) (i := 24) (v := undef) nosjc okkjc_24 sizjc (by kernel_rfl) rfl (fun _ _ _ h => h) (Or.inr ⟨by kernel_rfl, rfl⟩) (by assumption) ?_
        try simp only [Act.put, List.getElem_toArray, List.getElem_cons_succ, List.getElem_cons_zero, List.setIfInBounds_toArray, List.set_cons_zero, List.set_cons_succ]
        refine Held.take (k := 25) (i := 25) (v := undef) nosjc okkjc_25 sizjc (by kernel_rfl) rfl (fun _ _ _ h => h) (Or.inr ⟨by kernel_rfl, rfl⟩) (by assumption) ?_
        try simp only [Act.put, List.getElem_toArray, List.getElem_cons_succ, List.getElem_cons_zero, List.setIfInBounds_toArray, List.set_cons_zero, List.set_cons_succ]
        refine Held.take (k := 26) (i := 26) (v := undef) nosjc okkjc_26 sizjc (by kernel_rfl) rfl (fun _ _ _ h => h) (Or.inr ⟨by kernel_rfl, rfl⟩) (by assumption) ?_
        try simp only [Act.put, List.getElem_toArray, List.getElem_cons_succ, List.getElem_cons_zero, List.setIfInBounds_toArray, List.set_cons_zero, List.set_cons_succ]
        refine Held.take (k := 27) (i := 27) (v := undef) nosjc okkjc_27 sizjc (by kernel_rfl) rfl (fun _ _ _ h => h) (Or.inr ⟨by kernel_rfl, rfl⟩) (by assumption) ?_
        try simp only [Act.put, List.getElem_toArray, List.getElem_cons_succ, List.getElem_cons_zero, List.setIfInBounds_toArray, List.set_cons_zero, List.set_cons_succ]
        refine Held.take (k := 28) (i := 28) (v := undef) nosjc okkjc_28 sizjc (by kernel_rfl) rfl (fun _ _ _ h => h) (Or.inr ⟨by kernel_rfl, rfl⟩) (by assumption) ?_
        try simp only [Act.put, List.getElem_toArray, List.getElem_cons_succ, List.getElem_cons_zero, List.setIfInBounds_toArray, List.set_cons_zero, List.set_cons_succ]
        refine Held.take (k := 29) (i := 29) (v := undef) nosjc okkjc_29 sizjc (by kernel_rfl) rfl (fun _ _ _ h => h) (Or.inr ⟨by kernel_rfl, rfl⟩) (by assumption) ?_
        try simp only [Act.put, List.getElem_toArray, List.getElem_cons_succ, List.getElem_cons_zero, List.setIfInBounds_toArray, List.set_cons_zero, List.set_cons_succ]
        refine Held.take (k := 30) (i := 30) (v := undef) nosjc okkjc_30 sizjc (by kernel_rfl) rfl (fun _ _ _ h => h) (Or.inr ⟨by kernel_rfl, rfl⟩) (by assumption) ?_
        try simp only [Act.put, List.getElem_toArray, List.getElem_cons_succ, List.getElem_cons_zero, List.setIfInBounds_toArray, List.set_cons_zero, List.set_cons_succ]
        refine Held.take (k := 31) (i := 31) (v := undef) nosjc okkjc_31 sizjc (by kernel_rfl) rfl (fun _ _ _ h => h) (Or.inr ⟨by kernel_rfl, rfl⟩) (by assumption) ?_
        try simp only [Act.put, List.getElem_toArray, List.getElem_cons_succ, List.getElem_cons_zero, List.setIfInBounds_toArray, List.set_cons_zero, List.set_cons_succ]
        refine Held.take (k := 32) (i := 32) (v := ?vjc32) nosjc okkjc_32 sizjc (by kernel_rfl) rfl (fun _ _ _ h => h) (Or.inl ⟨by kernel_rfl, ?hyjc32⟩) (by assumption) ?restjc32
        case hyjc32 => (intro w hSw; (try dsimp only at hSw); go_simp; (try (first | with_reducible rfl | rw [if_neg (by omega)])))
        try simp only [Act.put, List.getElem_toArray, List.getElem_cons_succ, List.getElem_cons_zero, List.setIfInBounds_toArray, List.set_cons_zero, List.set_cons_succ]
        refine wpAnyH_done (by kernel_rfl) ?_ _
        clear u0 u1 u2 u3 u4 u5 u6
        clear CM
        go_wp2
        go_ret
        rw [HF.out]
        exact ⟨rfl, D⟩
      have HAB := Lib.hid hab
      have e1 : (a_.toList == b_.toList) = false := by simpa [toList_inj'] using hab
      clear hab
      by_cases hi0 : i = 0
      · have g1 : decide ((0 : Int) < (i : Int)) = false := decide_eq_false (by omega)
        have g1n : decide (0 < i) = false := decide_eq_false (by omega)
        have HJ2 : Hid (∀ j (h : j + 1 < l.length), j + 1 < i + 1 → ltRo (keyRo l[j]) (keyRo l[j + 1]) = true) := fun j _ h => absurd h (by omega)
        clear hi0
        clear uz
        replace hbX : w2.drew.heap[_]? = _ := hbX
        replace CM : CntMap w2.drew _ _ _ := CM
        replace D : Below _ _ w2.drew := D.drew
        go_wp2_with fail
        refine Held.start (ops := opsjd) (S := fun w' => w'.cell? ⟨wr.heap.size, 0, none⟩ = some (.string a_) ∧ w'.cell? ⟨wr.heap.size, 1, none⟩ = some (.string b_) ∧ w'.cell? ⟨wr.heap.size, 2, none⟩ = some (.bool c_) ∧ w'.cell? ⟨wr.heap.size, 3, none⟩ = some (.bool d_) ∧ w'.cell? ⟨wr.heap.size, 4, none⟩ = some (.bool e_) ∧ w'.cell? ⟨wr.heap.size, 5, none⟩ = some (.bool f_) ∧ w'.cell? ⟨wr.heap.size, 6, none⟩ = some (.bool g_)) ordjd 33 (by kernel_rfl) sizjd (by kernel_rfl) ⟨u0, u1, u2, u3, u4, u5, u6⟩ (fun hHeld => ?_)
        refine Held.take (k := 0) (i := 0) (v := ?vjd0) nosjd okkjd_0 sizjd (by kernel_rfl) rfl (fun _ _ _ h => h) (Or.inl ⟨by kernel_rfl, ?hyjd0⟩) (by assumption) ?restjd0
        case hyjd0 => (intro w hSw; (try dsimp only at hSw); go_simp; (try (first | with_reducible rfl | rw [if_neg (by omega)])))
        try simp only [Act.put, List.getElem_toArray, List.getElem_cons_succ, List.getElem_cons_zero, List.setIfInBounds_toArray, List.set_cons_zero, List.set_cons_succ]
        refine Held.take (k := 1) (i := 1) (v := ?vjd1) nosjd okkjd_1 sizjd (by kernel_rfl) rfl (fun _ _ _ h => h) (Or.inl ⟨by kernel_rfl, ?hyjd1⟩) (by assumption) ?restjd1
        case hyjd1 => (intro w hSw; (try dsimp only at hSw); go_simp; (try (first | with_reducible rfl | rw [if_neg (by omega)])))
        try simp only [Act.put, List.getElem_toArray, List.getElem_cons_succ, List.getElem_cons_zero, List.setIfInBounds_toArray, List.set_cons_zero, List.set_cons_succ]
        refine Held.only (k := 2) (i := 2) rdyjd_2 (by kernel_rfl) rfl (by kernel_rfl) (fun K hK => ?_)
        go_simp
        go_at_call 35
        with_reducible refine (re_ (Is_calls a_ _ (by omega)) (ret_bool HNa_.out)).mono ?_
        rintro e w3 ⟨rfl, hbx⟩
        replace u0 := cell_below hbx u0
        replace u1 := cell_below hbx u1
        replace u2 := cell_below hbx u2
        replace u3 := cell_below hbx u3
        replace u4 := cell_below hbx u4
        replace u5 := cell_below hbx u5
        replace u6 := cell_below hbx u6
        replace hbX := hcall hbX hbx
        replace CM := CM.below hbx
        replace D := below_call D hbx
        refine hK.out _ _ (by (try dsimp only); (exact ⟨u0, u1, u2, u3, u4, u5, u6⟩)) (fun hHeld => ?_)
        clear hK K
        try simp only [Act.put, List.getElem_toArray, List.getElem_cons_succ, List.getElem_cons_zero, List.setIfInBounds_toArray, List.set_cons_zero, List.set_cons_succ]
        refine Held.take (k := 3) (i := 3) (v := ?vjd3) nosjd okkjd_3 sizjd (by kernel_rfl) rfl (fun _ _ _ h => h) (Or.inl ⟨by kernel_rfl, ?hyjd3⟩) (by assumption) ?restjd3
        case hyjd3 => (intro w hSw; (try dsimp only at hSw); go_simp; (try (first | with_reducible rfl | rw [if_neg (by omega)])))
        try simp only [Act.put, List.getElem_toArray, List.getElem_cons_succ, List.getElem_cons_zero, List.setIfInBounds_toArray, List.set_cons_zero, List.set_cons_succ]
        refine Held.take (k := 4) (i := 4) (v := ?vjd4) nosjd okkjd_4 sizjd (by kernel_rfl) rfl (fun _ _ _ h => h) (Or.inl ⟨by kernel_rfl, ?hyjd4⟩) (by assumption) ?restjd4
        case hyjd4 => (intro w hSw; (try dsimp only at hSw); go_simp; (try (first | with_reducible rfl | rw [if_neg (by omega)])))
        try simp only [Act.put, List.getElem_toArray, List.getElem_cons_succ, List.getElem_cons_zero, List.setIfInBounds_toArray, List.set_cons_zero, List.set_cons_succ]
        refine Held.take (k := 5) (i := 5) (v := ?vjd5) nosjd okkjd_5 sizjd (by kernel_rfl) rfl (fun _ _ _ h => h) (Or.inl ⟨by kernel_rfl, ?hyjd5⟩) (by assumption) ?restjd5
        case hyjd5 => (intro w hSw; (try dsimp only at hSw); go_simp; (try (first | with_reducible rfl | rw [if_neg (by omega)])))
        try simp only [Act.put, List.getElem_toArray, List.getElem_cons_succ, List.getElem_cons_zero, List.setIfInBounds_toArray, List.set_cons_zero, List.set_cons_succ]
        refine Held.take (k := 6) (i := 6) (v := ?vjd6) nosjd okkjd_6 sizjd (by kernel_rfl) rfl (fun _ _ _ h => h) (Or.inl ⟨by kernel_rfl, ?hyjd6⟩) (by assumption) ?restjd6
        case hyjd6 => (intro w hSw; (try dsimp only at hSw); go_simp; (try (first | with_reducible rfl | rw [if_neg (by omega)])))
        try simp only [Act.put, List.getElem_toArray, List.getElem_cons_succ, List.getElem_cons_zero, List.setIfInBounds_toArray, List.set_cons_zero, List.set_cons_succ]
        refine Held.only (k := 7) (i := 7) rdyjd_7 (by kernel_rfl) rfl (by kernel_rfl) (fun K hK => ?_)
        go_simp
        go_at_call 35
        with_reducible refine (re_ (Is_calls b_ _ (by omega)) (ret_bool HNb_.out)).mono ?_
        rintro e w4 ⟨rfl, hbx⟩
        replace u0 := cell_below hbx u0
        replace u1 := cell_below hbx u1
        replace u2 := cell_below hbx u2
        replace u3 := cell_below hbx u3
        replace u4 := cell_below hbx u4
        replace u5 := cell_below hbx u5
        replace u6 := cell_below hbx u6
        replace hbX := hcall hbX hbx
        replace CM := CM.below hbx
        replace D := below_call D hbx
        refine hK.out _ _ (by (try dsimp only); (exact ⟨u0, u1, u2, u3, u4, u5, u6⟩)) (fun hHeld => ?_)
        clear hK K
        try simp only [Act.put, List.getElem_toArray, List.getElem_cons_succ, List.getElem_cons_zero, List.setIfInBounds_toArray, List.set_cons_zero, List.set_cons_succ]
        refine Held.take (k := 8) (i := 8) (v := ?vjd8) nosjd okkjd_8 sizjd (by kernel_rfl) rfl (fun _ _ _ h => h) (Or.inl ⟨by kernel_rfl, ?hyjd8⟩) (by assumption) ?restjd8
        case hyjd8 => (intro w hSw; (try dsimp only at hSw); go_simp; (try (first | with_reducible rfl | rw [if_neg (by omega)])))
        try simp only [Act.put, List.getElem_toArray, List.getElem_cons_succ, List.getElem_cons_zero, List.setIfInBounds_toArray, List.set_cons_zero, List.set_cons_succ]
        refine Held.take (k := 9) (i := 9) (v := ?vjd9) nosjd okkjd_9 sizjd (by kernel_rfl) rfl (fun _ _ _ h => h) (Or.inl ⟨by kernel_rfl, ?hyjd9⟩) (by assumption) ?restjd9
        case hyjd9 => (intro w hSw; (try dsimp only at hSw); go_simp; (try (first | with_reducible rfl | rw [if_neg (by omega)])))
        try simp only [Act.put, List.getElem_toArray, List.getElem_cons_succ, List.getElem_cons_zero, List.setIfInBounds_toArray, List.set_cons_zero, List.set_cons_succ]
        refine Held.take (k := 10) (i := 10) (v := ?vjd10) nosjd okkjd_10 sizjd (by kernel_rfl) rfl (fun _ _ _ h => h) (Or.inl ⟨by kernel_rfl, ?hyjd10⟩) (by assumption) ?restjd10
        case hyjd10 => (intro w hSw; (try dsimp only at hSw); go_simp; (try (first | with_reducible rfl | rw [if_neg (by omega)])))
        try simp only [Act.put, List.getElem_toArray, List.getElem_cons_succ, List.getElem_cons_zero, List.setIfInBounds_toArray, List.set_cons_zero, List.set_cons_succ]
        refine Held.take (k := 11) (i := 11) (v := ?vjd11) nosjd okkjd_11 sizjd (by kernel_rfl) rfl (fun _ _ _ h => h) (Or.inl ⟨by kernel_rfl, ?hyjd11⟩) (by assumption) ?restjd11
        case hyjd11 => (intro w hSw; (try dsimp only at hSw); go_simp; (try (first | with_reducible rfl | rw [if_neg (by omega)])))
        try simp only [Act.put, List.getElem_toArray, List.getElem_cons_succ, List.getElem_cons_zero, List.setIfInBounds_toArray, List.set_cons_zero, List.set_cons_succ]
        refine Held.take (k := 12) (i := 12) (v := ?vjd12) nosjd okkjd_12 sizjd (by kernel_rfl) rfl (fun _ _ _ h => h) (Or.inl ⟨by kernel_rfl, ?hyjd12⟩) (by assumption) ?restjd12
        case hyjd12 => (intro w hSw; (try dsimp only at hSw); go_simp; (try (first | with_reducible rfl | rw [if_neg (by omega)])))
        try simp only [Act.put, List.getElem_toArray, List.getElem_cons_succ, List.getElem_cons_zero, List.setIfInBounds_toArray, List.set_cons_zero, List.set_cons_succ]
        refine Held.take (k := 13) (i := 13) (v := ?vjd13) nosjd okkjd_13 sizjd (by kernel_rfl) rfl (fun _ _ _ h => h) (Or.inl ⟨by kernel_rfl, ?hyjd13⟩) (by assumption) ?restjd13
        case hyjd13 => (intro w hSw; (try dsimp only at hSw); go_simp; (try (first | with_reducible rfl | rw [if_neg (by omega)])))
        try simp only [Act.put, List.getElem_toArray, List.getElem_cons_succ, List.getElem_cons_zero, List.setIfInBounds_toArray, List.set_cons_zero, List.set_cons_succ]
        refine Held.take (k := 14) (i := 14) (v := ?vjd14) nosjd okkjd_14 sizjd (by kernel_rfl) rfl (fun _ _ _ h => h) (Or.inl ⟨by kernel_rfl, ?hyjd14⟩) (by assumption) ?restjd14
        case hyjd14 => (intro w hSw; (try dsimp only at hSw); go_simp; (try (first | with_reducible rfl | rw [if_neg (by omega)])))
        try simp only [Act.put, List.getElem_toArray, List.getElem_cons_succ, List.getElem_cons_zero, List.setIfInBounds_toArray, List.set_cons_zero, List.set_cons_succ]
        refine Held.take (k := 15) (i := 15) (v := ?vjd15) nosjd okkjd_15 sizjd (by kernel_rfl) rfl (fun _ _ _ h => h) (Or.inl ⟨by kernel_rfl, ?hyjd15⟩) (by assumption) ?restjd15
        case hyjd15 => (intro w hSw; (try dsimp only at hSw); go_simp; (try (first | with_reducible rfl | rw [if_neg (by omega)])))
        try simp only [Act.put, List.getElem_toArray, List.getElem_cons_succ, List.getElem_cons_zero, List.setIfInBounds_toArray, List.set_cons_zero, List.set_cons_succ]
        refine Held.take (k := 16) (i := 16) (v := ?vjd16) nosjd okkjd_16 sizjd (by kernel_rfl) rfl (fun _ _ _ h => h) (Or.inl ⟨by kernel_rfl, ?hyjd16⟩) (by assumption) ?restjd16
        case hyjd16 => (intro w hSw; (try dsimp only at hSw); go_simp; (try (first | with_reducible rfl | rw [if_neg (by omega)])))
        try simp only [Act.put, List.getElem_toArray, List.getElem_cons_succ, List.getElem_cons_zero, List.setIfInBounds_toArray, List.set_cons_zero, List.set_cons_succ]
        refine Held.take (k := 17) (i := 17) (v := ?vjd17) nosjd okkjd_17 sizjd (by kernel_rfl) rfl (fun _ _ _ h => h) (Or.inl ⟨by kernel_rfl, ?hyjd17⟩) (by assumption) ?restjd17
        case hyjd17 => (intro w hSw; (try dsimp only at hSw); go_simp; (try (first | with_reducible rfl | rw [if_neg (by omega)])))
        try simp only [Act.put, List.getElem_toArray, List.getElem_cons_succ, List.getElem_cons_zero, List.setIfInBounds_toArray, List.set_cons_zero, List.set_cons_succ]
        refine Held.take (k := 18) (i := 18) (v := ?vjd18) nosjd okkjd_18 sizjd (by kernel_rfl) rfl (fun _ _ _ h => h) (Or.inl ⟨by kernel_rfl, ?hyjd18⟩) (by assumption) ?restjd18
        case hyjd18 => (intro w hSw; (try dsimp only at hSw); go_simp; (try (first | with_reducible rfl | rw [if_neg (by omega)])))
        try simp only [Act.put, List.getElem_toArray, List.getElem_cons_succ, List.getElem_cons_zero, List.setIfInBounds_toArray, List.set_cons_zero, List.set_cons_succ]
        refine Held.take (k := 19) (i := 19) (v := ?vjd19) nosjd okkjd_19 sizjd (by kernel_rfl) rfl (fun _ _ _ h => h) (Or.inl ⟨by kernel_rfl, ?hyjd19⟩) (by assumption) ?restjd19
        case hyjd19 => (intro w hSw; (try dsimp only at hSw); go_simp; (try (first | with_reducible rfl | rw [if_neg (by omega)])))
        try simp only [Act.put, List.getElem_toArray, List.getElem_cons_succ, List.getElem_cons_zero, List.setIfInBounds_toArray, List.set_cons_zero, List.set_cons_succ]
        refine Held.take (k := 20) (i := 20) (v := ?vjd20) nosjd okkjd_20 sizjd (by kernel_rfl) rfl (fun _ _ _ h => h) (Or.inl ⟨by kernel_rfl, ?hyjd20⟩) (by assumption) ?restjd20
        case hyjd20 => (intro w hSw; (try dsimp only at hSw); go_simp; (try (first | with_reducible rfl | rw [if_neg (by omega)])))
        try simp only [Act.put, List.getElem_toArray, List.getElem_cons_succ, List.getElem_cons_zero, List.setIfInBounds_toArray, List.set_cons_zero, List.set_cons_succ]
        refine Held.take (k := 21) (i := 21) (v := undef) nosjd okkjd_21 sizjd (by kernel_rfl) rfl (fun _ _ _ h => h) (Or.inr ⟨by kernel_rfl, rfl⟩) (by assumption) ?_
        try simp only [Act.put, List.getElem_toArray, List.getElem_cons_succ, List.getElem_cons_zero, List.setIfInBounds_toArray, List.set_cons_zero, List.set_cons_succ]
        refine Held.take (k := 22) (i := 22) (v := undef) nosjd okkjd_22 sizjd (by kernel_rfl) rfl (fun _ _ _ h => h) (Or.inr ⟨by kernel_rfl, rfl⟩) (by assumption) ?_
        try simp only [Act.put, List.getElem_toArray, List.getElem_cons_succ, List.getElem_cons_zero, List.setIfInBounds_toArray, List.set_cons_zero, List.set_cons_succ]
        refine Held.take (k := 23) (i := 23) (v := undef) nosjd okkjd_23 sizjd (by kernel_rfl) rfl (fun _ _ _ h => h) (Or.inr ⟨by kernel_rfl, rfl⟩) (by assumption) ?_
        try simp only [Act.put, List.getElem_toArray, List.getElem_cons_succ, List.getElem_cons_zero, List.setIfInBounds_toArray, List.set_cons_zero, List.set_cons_succ]
        refine Held.take (k := 24) (i := 24) (v := undef) nosjd okkjd_24 sizjd (by kernel_rfl) rfl (fun _ _ _ h => h) (Or.inr ⟨by kernel_rfl, rfl⟩) (by assumption) ?_
        try simp only [Act.put, List.getElem_toArray, List.getElem_cons_succ, List.getElem_cons_zero, List.setIfInBounds_toArray, List.set_cons_zero, List.set_cons_succ]
        refine Held.take (k := 25) (i := 25) (v := undef) nosjd okkjd_25 sizjd (by kernel_rfl) rfl (fun _ _ _ h => h) (Or.inr ⟨by kernel_rfl, rfl⟩) (by assumption) ?_
        try simp only [Act.put, List.getElem_toArray, List.getElem_cons_succ, List.getElem_cons_zero, List.setIfInBounds_toArray, List.set_cons_zero, List.set_cons_succ]
        refine Held.take (k := 26) (i := 26) (v := undef) nosjd okkjd_26 sizjd (by kernel_rfl) rfl (fun _ _ _ h => h) (Or.inr ⟨by kernel_rfl, rfl⟩) (by assumption) ?_
        try simp only [Act.put, List.getElem_toArray, List.getElem_cons_succ, List.getElem_cons_zero, List.setIfInBounds_toArray, List.set_cons_zero, List.set_cons_succ]
        refine Held.take (k := 27) (i := 27) (v := undef) nosjd okkjd_27 sizjd (by kernel_rfl) rfl (fun _ _ _ h => h) (Or.inr ⟨by kernel_rfl, rfl⟩) (by assumption) ?_
        try simp only [Act.put, List.getElem_toArray, List.getElem_cons_succ, List.getElem_cons_zero, List.setIfInBounds_toArray, List.set_cons_zero, List.set_cons_succ]
        refine Held.take (k := 28) (i := 28) (v := undef) nosjd okkjd_28 sizjd (by kernel_rfl) rfl (fun _ _ _ h => h) (Or.inr ⟨by kernel_rfl, rfl⟩) (by assumption) ?_
        try simp only [Act.put, List.getElem_toArray, List.getElem_cons_succ, List.getElem_cons_zero, List.setIfInBounds_toArray, List.set_cons_zero, List.set_cons_succ]
        refine Held.take (k := 29) (i := 29) (v := undef) nosjd okkjd_29 sizjd (by kernel_rfl) rfl (fun _ _ _ h => h) (Or.inr ⟨by kernel_rfl, rfl⟩) (by assumption) ?_
        try simp only [Act.put, List.getElem_toArray, List.getElem_cons_succ, List.getElem_cons_zero, List.setIfInBounds_toArray, List.set_cons_zero, List.set_cons_succ]
        refine Held.take (k := 30) (i := 30) (v := undef) nosjd okkjd_30 sizjd (by kernel_rfl) rfl (fun _ _ _ h => h) (Or.inr ⟨by kernel_rfl, rfl⟩) (by assumption) ?_
        try simp only [Act.put, List.getElem_toArray, List.getElem_cons_succ, List.getElem_cons_zero, List.setIfInBounds_toArray, List.set_cons_zero, List.set_cons_succ]
        refine Held.take (k := 31) (i := 31) (v := ?vjd31) nosjd okkjd_31 sizjd (by kernel_rfl) rfl (fun _ _ _ h => h) (Or.inl ⟨by kernel_rfl, ?hyjd31⟩) (by assumption) ?restjd31
        case hyjd31 => (intro w hSw; (try dsimp only at hSw); go_simp; (try (first | with_reducible rfl | rw [if_neg (by omega)])))
        try simp only [Act.put, List.getElem_toArray, List.getElem_cons_succ, List.getElem_cons_zero, List.setIfInBounds_toArray, List.set_cons_zero, List.set_cons_succ]
        refine Held.take (k := 32) (i := 32) (v := ?vjd32) nosjd okkjd_32 sizjd (by kernel_rfl) rfl (fun _ _ _ h => h) (Or.inl ⟨by kernel_rfl, ?hyjd32⟩) (by assumption) ?restjd32
        case hyjd32 => (intro w hSw; (try dsimp only at hSw); go_simp; (try (first | with_reducible rfl | rw [if_neg (by omega)])))
        try simp only [Act.put, List.getElem_toArray, List.getElem_cons_succ, List.getElem_cons_zero, List.setIfInBounds_toArray, List.set_cons_zero, List.set_cons_succ]
        refine wpAnyH_done (by kernel_rfl) ?_ _
        clear u0 u1 u2 u3 u4 u5 u6
        obtain ⟨u0, u1, u2, u3, u4, u5, u6, uz⟩ := cellsEn a_ b_ c_ d_ e_ f_ g_ hbX
        have HFD' := fun (W : World) (h : Row enEn 7 W (.slice (some ad) n c) l) => findRo_calls n c (some ad) l b_ a_ W h
        cases hp : placeRo l b_ a_ with
        | none =>
          have HNH := (getRo_no l b_ a_ (place_none hp)).2
          have HF : Hid (r = false) := by
            show _ = _
            rw [← HR.out]
            exact mayRo_no_cond i hil (by rw [HCD.out, HNH]; simp)
          rw [hp] at HFD'
          have HFD := Lib.hid (show ∀ (W : World), Row enEn 7 W (.slice (some ad) n c) l → Calls Try.prog 38 #[.slice (some ad) n c, agKr b_ a_] W fun e w' => e = .returned (.tuple #[.int .i64 0, .bool false]) ∧ Below W.heap.size W w' from HFD')
          clear HFD' hp HNH
          go_wp2_with fail
          with_reducible refine (HFD.out _ (hl.below D)).mono ?_
          rintro e w5 ⟨rfl, b5⟩
          replace hbX := hcall hbX b5
          replace CM := CM.below b5
          replace D := below_call D b5
          clear b5 u0 u1 u2 u3 u4 u5 u6 uz
          clear HFD
          obtain ⟨u0, u1, u2, u3, u4, u5, u6, uz⟩ := cellsEn a_ b_ c_ d_ e_ f_ g_ hbX
          clear uz
          replace hbX : w5.drew.heap[_]? = _ := hbX
          replace CM : CntMap w5.drew _ _ _ := CM
          replace D : Below _ _ w5.drew := D.drew
          go_wp2_with fail
          refine Held.start (ops := opsj0p) (S := fun w' => w'.cell? ⟨wr.heap.size, 0, none⟩ = some (.string a_) ∧ w'.cell? ⟨wr.heap.size, 1, none⟩ = some (.string b_) ∧ w'.cell? ⟨wr.heap.size, 2, none⟩ = some (.bool c_) ∧ w'.cell? ⟨wr.heap.size, 3, none⟩ = some (.bool d_) ∧ w'.cell? ⟨wr.heap.size, 4, none⟩ = some (.bool e_) ∧ w'.cell? ⟨wr.heap.size, 5, none⟩ = some (.bool f_) ∧ w'.cell? ⟨wr.heap.size, 6, none⟩ = some (.bool g_)) ordj0p 26 (by kernel_rfl) sizj0p (by kernel_rfl) ⟨u0, u1, u2, u3, u4, u5, u6⟩ (fun hHeld => ?_)
          refine Held.take (k := 0) (i := 0) (v := ?vj0p0) nosj0p okkj0p_0 sizj0p (by kernel_rfl) rfl (fun _ _ _ h => h) (Or.inl ⟨by kernel_rfl, ?hyj0p0⟩) (by assumption) ?restj0p0
          case hyj0p0 => (intro w hSw; (try dsimp only at hSw); go_simp; (try (first | with_reducible rfl | rw [if_neg (by omega)])))
          try simp only [Act.put, List.getElem_toArray, List.getElem_cons_succ, List.getElem_cons_zero, List.setIfInBounds_toArray, List.set_cons_zero, List.set_cons_succ]
          refine Held.take (k := 1) (i := 1) (v := ?vj0p1) nosj0p okkj0p_1 sizj0p (by kernel_rfl) rfl (fun _ _ _ h => h) (Or.inl ⟨by kernel_rfl, ?hyj0p1⟩) (by assumption) ?restj0p1
          case hyj0p1 => (intro w hSw; (try dsimp only at hSw); go_simp; (try (first | with_reducible rfl | rw [if_neg (by omega)])))
          try simp only [Act.put, List.getElem_toArray, List.getElem_cons_succ, List.getElem_cons_zero, List.setIfInBounds_toArray, List.set_cons_zero, List.set_cons_succ]
          refine Held.take (k := 2) (i := 2) (v := ?vj0p2) nosj0p okkj0p_2 sizj0p (by kernel_rfl) rfl (fun _ _ _ h => h) (Or.inl ⟨by kernel_rfl, ?hyj0p2⟩) (by assumption) ?restj0p2
          case hyj0p2 => (intro w hSw; (try dsimp only at hSw); go_simp; (try (first | with_reducible rfl | rw [if_neg (by omega)])))
          try simp only [Act.put, List.getElem_toArray, List.getElem_cons_succ, List.getElem_cons_zero, List.setIfInBounds_toArray, List.set_cons_zero, List.set_cons_succ]
          refine Held.take (k := 3) (i := 3) (v := undef) nosj0p okkj0p_3 sizj0p (by kernel_rfl) rfl (fun _ _ _ h => h) (Or.inr ⟨by kernel_rfl, rfl⟩) (by assumption) ?_
          try simp only [Act.put, List.getElem_toArray, List.getElem_cons_succ, List.getElem_cons_zero, List.setIfInBounds_toArray, List.set_cons_zero, List.set_cons_succ]
          refine Held.take (k := 4) (i := 4) (v := undef) nosj0p okkj0p_4 sizj0p (by kernel_rfl) rfl (fun _ _ _ h => h) (Or.inr ⟨by kernel_rfl, rfl⟩) (by assumption) ?_
          try simp only [Act.put, List.getElem_toArray, List.getElem_cons_succ, List.getElem_cons_zero, List.setIfInBounds_toArray, List.set_cons_zero, List.set_cons_succ]
          refine Held.take (k := 5) (i := 5) (v := undef) nosj0p okkj0p_5 sizj0p (by kernel_rfl) rfl (fun _ _ _ h => h) (Or.inr ⟨by kernel_rfl, rfl⟩) (by assumption) ?_
          try simp only [Act.put, List.getElem_toArray, List.getElem_cons_succ, List.getElem_cons_zero, List.setIfInBounds_toArray, List.set_cons_zero, List.set_cons_succ]
          refine Held.take (k := 6) (i := 6) (v := undef) nosj0p okkj0p_6 sizj0p (by kernel_rfl) rfl (fun _ _ _ h => h) (Or.inr ⟨by kernel_rfl, rfl⟩) (by assumption) ?_
          try simp only [Act.put, List.getElem_toArray, List.getElem_cons_succ, List.getElem_cons_zero, List.setIfInBounds_toArray, List.set_cons_zero, List.set_cons_succ]
          refine Held.take (k := 7) (i := 7) (v := undef) nosj0p okkj0p_7 sizj0p (by kernel_rfl) rfl (fun _ _ _ h => h) (Or.inr ⟨by kernel_rfl, rfl⟩) (by assumption) ?_
          try simp only [Act.put, List.getElem_toArray, List.getElem_cons_succ, List.getElem_cons_zero, List.setIfInBounds_toArray, List.set_cons_zero, List.set_cons_succ]
          refine Held.take (k := 8) (i := 8) (v := undef) nosj0p okkj0p_8 sizj0p (by kernel_rfl) rfl (fun _ _ _ h => h) (Or.inr ⟨by kernel_rfl, rfl⟩) (by assumption) ?_
          try simp only [Act.put, List.getElem_toArray, List.getElem_cons_succ, List.getElem_cons_zero, List.setIfInBounds_toArray, List.set_cons_zero, List.set_cons_succ]
          refine Held.take (k := 9) (i := 9) (v := undef) nosj0p okkj0p_9 sizj0p (by kernel_rfl) rfl (fun _ _ _ h => h) (Or.inr ⟨by kernel_rfl, rfl⟩) (by assumption) ?_
          try simp only [Act.put, List.getElem_toArray, List.getElem_cons_succ, List.getElem_cons_zero, List.setIfInBounds_toArray, List.set_cons_zero, List.set_cons_succ]
          refine Held.take (k := 10) (i := 10) (v := undef) nosj0p okkj0p_10 sizj0p (by kernel_rfl) rfl (fun _ _ _ h => h) (Or.inr ⟨by kernel_rfl, rfl⟩) (by assumption) ?_
          try simp only [Act.put, List.getElem_toArray, List.getElem_cons_succ, List.getElem_cons_zero, List.setIfInBounds_toArray, List.set_cons_zero, List.set_cons_succ]
          refine Held.take (k := 11) (i := 11) (v := undef) nosj0p okkj0p_11 sizj0p (by kernel_rfl) rfl (fun _ _ _ h => h) (Or.inr ⟨by kernel_rfl, rfl⟩) (by assumption) ?_
          try simp only [Act.put, List.getElem_toArray, List.getElem_cons_succ, List.getElem_cons_zero, List.setIfInBounds_toArray, List.set_cons_zero, List.set_cons_succ]
          refine Held.take (k := 12) (i := 12) (v := ?vj0p12) nosj0p okkj0p_12 sizj0p (by kernel_rfl) rfl (fun _ _ _ h => h) (Or.inl ⟨by kernel_rfl, ?hyj0p12⟩) (by assumption) ?restj0p12
          case hyj0p12 => (intro w hSw; (try dsimp only at hSw); go_simp; (try (first | with_reducible rfl | rw [if_neg (by omega)])))
          try simp only [Act.put, List.getElem_toArray, List.getElem_cons_succ, List.getElem_cons_zero, List.setIfInBounds_toArray, List.set_cons_zero, List.set_cons_succ]
          refine Held.take (k := 13) (i := 13) (v := ?vj0p13) nosj0p okkj0p_13 sizj0p (by kernel_rfl) rfl (fun _ _ _ h => h) (Or.inl ⟨by kernel_rfl, ?hyj0p13⟩) (by assumption) ?restj0p13
          case hyj0p13 => (intro w hSw; (try dsimp only at hSw); go_simp; (try (first | with_reducible rfl | rw [if_neg (by omega)])))
          try simp only [Act.put, List.getElem_toArray, List.getElem_cons_succ, List.getElem_cons_zero, List.setIfInBounds_toArray, List.set_cons_zero, List.set_cons_succ]
          refine Held.take (k := 14) (i := 14) (v := undef) nosj0p okkj0p_14 sizj0p (by kernel_rfl) rfl (fun _ _ _ h => h) (Or.inr ⟨by kernel_rfl, rfl⟩) (by assumption) ?_
          try simp only [Act.put, List.getElem_toArray, List.getElem_cons_succ, List.getElem_cons_zero, List.setIfInBounds_toArray, List.set_cons_zero, List.set_cons_succ]
          refine Held.take (k := 15) (i := 15) (v := undef) nosj0p okkj0p_15 sizj0p (by kernel_rfl) rfl (fun _ _ _ h => h) (Or.inr ⟨by kernel_rfl, rfl⟩) (by assumption) ?_
          try simp only [Act.put, List.getElem_toArray, List.getElem_cons_succ, List.getElem_cons_zero, List.setIfInBounds_toArray, List.set_cons_zero, List.set_cons_succ]
          refine Held.take (k := 16) (i := 16) (v := undef) nosj0p okkj0p_16 sizj0p (by kernel_rfl) rfl (fun _ _ _ h => h) (Or.inr ⟨by kernel_rfl, rfl⟩) (by assumption) ?_
          try simp only [Act.put, List.getElem_toArray, List.getElem_cons_succ, List.getElem_cons_zero, List.setIfInBounds_toArray, List.set_cons_zero, List.set_cons_succ]
          refine Held.take (k := 17) (i := 17) (v := undef) nosj0p okkj0p_17 sizj0p (by kernel_rfl) rfl (fun _ _ _ h => h) (Or.inr ⟨by kernel_rfl, rfl⟩) (by assumption) ?_
          try simp only [Act.put, List.getElem_toArray, List.getElem_cons_succ, List.getElem_cons_zero, List.setIfInBounds_toArray, List.set_cons_zero, List.set_cons_succ]
          refine Held.take (k := 18) (i := 18) (v := undef) nosj0p okkj0p_18 sizj0p (by kernel_rfl) rfl (fun _ _ _ h => h) (Or.inr ⟨by kernel_rfl, rfl⟩) (by assumption) ?_
          try simp only [Act.put, List.getElem_toArray, List.getElem_cons_succ, List.getElem_cons_zero, List.setIfInBounds_toArray, List.set_cons_zero, List.set_cons_succ]
          refine Held.take (k := 19) (i := 19) (v := undef) nosj0p okkj0p_19 sizj0p (by kernel_rfl) rfl (fun _ _ _ h => h) (Or.inr ⟨by kernel_rfl, rfl⟩) (by assumption) ?_
          try simp only [Act.put, List.getElem_toArray, List.getElem_cons_succ, List.getElem_cons_zero, List.setIfInBounds_toArray, List.set_cons_zero, List.set_cons_succ]
          refine Held.take (k := 20) (i := 20) (v := undef) nosj0p okkj0p_20 sizj0p (by kernel_rfl) rfl (fun _ _ _ h => h) (Or.inr ⟨by kernel_rfl, rfl⟩) (by assumption) ?_
          try simp only [Act.put, List.getElem_toArray, List.getElem_cons_succ, List.getElem_cons_zero, List.setIfInBounds_toArray, List.set_cons_zero, List.set_cons_succ]
          refine Held.take (k := 21) (i := 21) (v := undef) nosj0p okkj0p_21 sizj0p (by kernel_rfl) rfl (fun _ _ _ h => h) (Or.inr ⟨by kernel_rfl, rfl⟩) (by assumption) ?_
          try simp only [Act.put, List.getElem_toArray, List.getElem_cons_succ, List.getElem_cons_zero, List.setIfInBounds_toArray, List.set_cons_zero, List.set_cons_succ]
          refine Held.take (k := 22) (i := 22) (v := undef) nosj0p okkj0p_22 sizj0p (by kernel_rfl) rfl (fun _ _ _ h => h) (Or.inr ⟨by kernel_rfl, rfl⟩) (by assumption) ?_
          try simp only [Act.put, List.getElem_toArray, List.getElem_cons_succ, List.getElem_cons_zero, List.setIfInBounds_toArray, List.set_cons_zero, List.set_cons_succ]
          refine Held.take (k := 23) (i := 23) (v := undef) nosj0p okkj0p_23 sizj0p (by kernel_rfl) rfl (fun _ _ _ h => h) (Or.inr ⟨by kernel_rfl, rfl⟩) (by assumption) ?_
          try simp only [Act.put, List.getElem_toArray, List.getElem_cons_succ, List.getElem_cons_zero, List.setIfInBounds_toArray, List.set_cons_zero, List.set_cons_succ]
          refine Held.take (k := 24) (i := 24) (v := undef) nosj0p okkj0p_24 sizj0p (by kernel_rfl) rfl (fun _ _ _ h => h) (Or.inr ⟨by kernel_rfl, rfl⟩) (by assumption) ?_
          try simp only [Act.put, List.getElem_toArray, List.getElem_cons_succ, List.getElem_cons_zero, List.setIfInBounds_toArray, List.set_cons_zero, List.set_cons_succ]
          refine Held.take (k := 25) (i := 25) (v := ?vj0p25) nosj0p okkj0p_25 sizj0p (by kernel_rfl) rfl (fun _ _ _ h => h) (Or.inl ⟨by kernel_rfl, ?hyj0p25⟩) (by assumption) ?restj0p25
          case hyj0p25 => (intro w hSw; (try dsimp only at hSw); go_simp; (try (first | with_reducible rfl | rw [if_neg (by omega)])))
          try simp only [Act.put, List.getElem_toArray, List.getElem_cons_succ, List.getElem_cons_zero, List.setIfInBounds_toArray, List.set_cons_zero, List.set_cons_succ]
          refine wpAnyH_done (by kernel_rfl) ?_ _
          clear u0 u1 u2 u3 u4 u5 u6
          clear CM
          go_wp2
          go_ret
          rw [HF.out]
          exact ⟨rfl, D⟩
        | some k2 =>
          obtain ⟨hkl, hkk, hk4⟩ := place_some hp
          obtain ⟨⟨a', b', c', d', e', f', g'⟩, he'⟩ : ∃ e, l[k2] = e := ⟨_, rfl⟩
          obtain ⟨hg1, hg2⟩ := getRo_at l b_ a_ k2 hkl hk4 hkk
          rw [he'] at hg1
          simp only at hg1
          rw [hp] at HFD'
          have HFD := Lib.hid (show ∀ (W : World), Row enEn 7 W (.slice (some ad) n c) l → Calls Try.prog 38 #[.slice (some ad) n c, agKr b_ a_] W fun e w' => e = .returned (.tuple #[.int .i64 k2, .bool true]) ∧ Below W.heap.size W w' from fun W h => by
            have := HFD' W h
            rwa [show maxI (idxI (some k2)) = (k2 : Int) from by unfold maxI idxI; simp, show decide (0 ≤ idxI (some k2)) = true from by unfold idxI; simp] at this)
          have hcd := HCD.out
          rw [hg1, hg2, HNa_.out, HNb_.out, decide_eq_false HAB.out] at hcd
          simp only [Bool.true_and, Bool.not_false] at hcd
          have HCE := Lib.hid hcd
          have HE2 := Lib.hid he'
          have x5 : (0 : Int) ≤ (k2 : Int) := by omega
          have x6 : (k2 : Int) < (n : Int) := by have := EA.out; omega
          obtain ⟨ft, hft⟩ : ∃ b, fitI ⟨c_, d_, e_, f_, g_⟩ ⟨c', d', e', f', g'⟩ = b := ⟨_, rfl⟩
          obtain ⟨m1, hm1⟩ : ∃ b, emptyI ⟨c_, d_, e_, f_, g_⟩ = b := ⟨_, rfl⟩
          obtain ⟨m2, hm2⟩ : ∃ b, emptyI ⟨c', d', e', f', g'⟩ = b := ⟨_, rfl⟩
          have HFT := Lib.hid hft
          have HM1 := Lib.hid hm1
          have HM2 := Lib.hid hm2
          clear HFD' hp hkk hk4 he' hg1 hg2 hcd hft hm1 hm2
          go_wp2_with fail
          with_reducible refine (HFD.out _ (hl.below D)).mono ?_
          rintro e w5 ⟨rfl, b5⟩
          replace hbX := hcall hbX b5
          replace CM := CM.below b5
          replace D := below_call D b5
          clear b5 u0 u1 u2 u3 u4 u5 u6 uz
          clear HFD
          obtain ⟨u0, u1, u2, u3, u4, u5, u6, uz⟩ := cellsEn a_ b_ c_ d_ e_ f_ g_ hbX
          obtain ⟨k0, k1, k2_, k3, k4, k5, k6⟩ := rowsEn (hl.below D) k2 hkl a' b' c' d' e' f' g' HE2.out
          cases ft with
          | false =>
            have HF : Hid (r = false) := by
              show _ = _
              rw [← HR.out]
              exact mayRo_no_cond i hil (by rw [HCE.out, HFT.out]; rfl)
            clear uz
            replace hbX : w5.drew.heap[_]? = _ := hbX
            replace CM : CntMap w5.drew _ _ _ := CM
            replace D : Below _ _ w5.drew := D.drew
            go_wp2_with fail
            refine Held.start (ops := opsj1p) (S := fun w' => w'.cell? ⟨wr.heap.size, 0, none⟩ = some (.string a_) ∧ w'.cell? ⟨wr.heap.size, 1, none⟩ = some (.string b_) ∧ w'.cell? ⟨wr.heap.size, 2, none⟩ = some (.bool c_) ∧ w'.cell? ⟨wr.heap.size, 3, none⟩ = some (.bool d_) ∧ w'.cell? ⟨wr.heap.size, 4, none⟩ = some (.bool e_) ∧ w'.cell? ⟨wr.heap.size, 5, none⟩ = some (.bool f_) ∧ w'.cell? ⟨wr.heap.size, 6, none⟩ = some (.bool g_) ∧ w'.cell? (ad.add (k2 * 7)) = some (.string a') ∧ w'.cell? ⟨(ad.add (k2 * 7)).block, (ad.add (k2 * 7)).off + 1, none⟩ = some (.string b') ∧ w'.cell? ⟨(ad.add (k2 * 7)).block, (ad.add (k2 * 7)).off + 2, none⟩ = some (.bool c') ∧ w'.cell? ⟨(ad.add (k2 * 7)).block, (ad.add (k2 * 7)).off + 3, none⟩ = some (.bool d') ∧ w'.cell? ⟨(ad.add (k2 * 7)).block, (ad.add (k2 * 7)).off + 4, none⟩ = some (.bool e') ∧ w'.cell? ⟨(ad.add (k2 * 7)).block, (ad.add (k2 * 7)).off + 5, none⟩ = some (.bool f') ∧ w'.cell? ⟨(ad.add (k2 * 7)).block, (ad.add (k2 * 7)).off + 6, none⟩ = some (.bool g')) ordj1p 26 (by kernel_rfl) sizj1p (by kernel_rfl) ⟨u0, u1, u2, u3, u4, u5, u6, k0, k1, k2_, k3, k4, k5, k6⟩ (fun hHeld => ?_)
            refine Held.take (k := 0) (i := 0) (v := ?vj1p0) nosj1p okkj1p_0 sizj1p (by kernel_rfl) rfl (fun _ _ _ h => h) (Or.inl ⟨by kernel_rfl, ?hyj1p0⟩) (by assumption) ?restj1p0
            case hyj1p0 => (intro w hSw; (try dsimp only at hSw); go_simp; (try (first | with_reducible rfl | rw [if_neg (by omega)])))
            try simp only [Act.put, List.getElem_toArray, List.getElem_cons_succ, List.getElem_cons_zero, List.setIfInBounds_toArray, List.set_cons_zero, List.set_cons_succ]
            refine Held.take (k := 1) (i := 1) (v := ?vj1p1) nosj1p okkj1p_1 sizj1p (by kernel_rfl) rfl (fun _ _ _ h => h) (Or.inl ⟨by kernel_rfl, ?hyj1p1⟩) (by assumption) ?restj1p1
            case hyj1p1 => (intro w hSw; (try dsimp only at hSw); go_simp; (try (first | with_reducible rfl | rw [if_neg (by omega)])))
            try simp only [Act.put, List.getElem_toArray, List.getElem_cons_succ, List.getElem_cons_zero, List.setIfInBounds_toArray, List.set_cons_zero, List.set_cons_succ]
            refine Held.take (k := 2) (i := 2) (v := ?vj1p2) nosj1p okkj1p_2 sizj1p (by kernel_rfl) rfl (fun _ _ _ h => h) (Or.inl ⟨by kernel_rfl, ?hyj1p2⟩) (by assumption) ?restj1p2
            case hyj1p2 => (intro w hSw; (try dsimp only at hSw); go_simp; (try (first | with_reducible rfl | rw [if_neg (by omega)])))
            try simp only [Act.put, List.getElem_toArray, List.getElem_cons_succ, List.getElem_cons_zero, List.setIfInBounds_toArray, List.set_cons_zero, List.set_cons_succ]
            refine Held.take (k := 3) (i := 3) (v := ?vj1p3) nosj1p okkj1p_3 sizj1p (by kernel_rfl) rfl (fun _ _ _ h => h) (Or.inl ⟨by kernel_rfl, ?hyj1p3⟩) (by assumption) ?restj1p3
            case hyj1p3 => (intro w hSw; (try dsimp only at hSw); go_simp; (try (first | with_reducible rfl | rw [if_neg (by omega)])))
            try simp only [Act.put, List.getElem_toArray, List.getElem_cons_succ, List.getElem_cons_zero, List.setIfInBounds_toArray, List.set_cons_zero, List.set_cons_succ]
            refine Held.take (k := 4) (i := 4) (v := ?vj1p4) nosj1p okkj1p_4 sizj1p (by kernel_rfl) rfl (fun _ _ _ h => h) (Or.inl ⟨by kernel_rfl, ?hyj1p4⟩) (by assumption) ?restj1p4
            case hyj1p4 => (intro w hSw; (try dsimp only at hSw); go_simp; (try (first | with_reducible rfl | rw [if_neg (by omega)])))
            try simp only [Act.put, List.getElem_toArray, List.getElem_cons_succ, List.getElem_cons_zero, List.setIfInBounds_toArray, List.set_cons_zero, List.set_cons_succ]
            refine Held.take (k := 5) (i := 5) (v := ?vj1p5) nosj1p okkj1p_5 sizj1p (by kernel_rfl) rfl (fun _ _ _ h => h) (Or.inl ⟨by kernel_rfl, ?hyj1p5⟩) (by assumption) ?restj1p5
            case hyj1p5 => (intro w hSw; (try dsimp only at hSw); go_simp; (try (first | with_reducible rfl | rw [if_neg (by omega)])))
            try simp only [Act.put, List.getElem_toArray, List.getElem_cons_succ, List.getElem_cons_zero, List.setIfInBounds_toArray, List.set_cons_zero, List.set_cons_succ]
            refine Held.take (k := 6) (i := 6) (v := ?vj1p6) nosj1p okkj1p_6 sizj1p (by kernel_rfl) rfl (fun _ _ _ h => h) (Or.inl ⟨by kernel_rfl, ?hyj1p6⟩) (by assumption) ?restj1p6
            case hyj1p6 => (intro w hSw; (try dsimp only at hSw); go_simp; (try (first | with_reducible rfl | rw [if_neg (by omega)])))
            try simp only [Act.put, List.getElem_toArray, List.getElem_cons_succ, List.getElem_cons_zero, List.setIfInBounds_toArray, List.set_cons_zero, List.set_cons_succ]
            refine Held.take (k := 7) (i := 7) (v := ?vj1p7) nosj1p okkj1p_7 sizj1p (by kernel_rfl) rfl (fun _ _ _ h => h) (Or.inl ⟨by kernel_rfl, ?hyj1p7⟩) (by assumption) ?restj1p7
            case hyj1p7 => (intro w hSw; (try dsimp only at hSw); go_simp; (try (first | with_reducible rfl | rw [if_neg (by omega)])))
            try simp only [Act.put, List.getElem_toArray, List.getElem_cons_succ, List.getElem_cons_zero, List.setIfInBounds_toArray, List.set_cons_zero, List.set_cons_succ]
            refine Held.take (k := 8) (i := 8) (v := ?vj1p8) nosj1p okkj1p_8 sizj1p (by kernel_rfl) rfl (fun _ _ _ h => h) (Or.inl ⟨by kernel_rfl, ?hyj1p8⟩) (by assumption) ?restj1p8
            case hyj1p8 => (intro w hSw; (try dsimp only at hSw); go_simp; (try (first | with_reducible rfl | rw [if_neg (by omega)])))
            try simp only [Act.put, List.getElem_toArray, List.getElem_cons_succ, List.getElem_cons_zero, List.setIfInBounds_toArray, List.set_cons_zero, List.set_cons_succ]
            refine Held.take (k := 9) (i := 9) (v := ?vj1p9) nosj1p okkj1p_9 sizj1p (by kernel_rfl) rfl (fun _ _ _ h => h) (Or.inl ⟨by kernel_rfl, ?hyj1p9⟩) (by assumption) ?restj1p9
            case hyj1p9 => (intro w hSw; (try dsimp only at hSw); go_simp; (try (first | with_reducible rfl | rw [if_neg (by omega)])))
            try simp only [Act.put, List.getElem_toArray, List.getElem_cons_succ, List.getElem_cons_zero, List.setIfInBounds_toArray, List.set_cons_zero, List.set_cons_succ]
            refine Held.only (k := 10) (i := 10) rdyj1p_10 (by kernel_rfl) rfl (by kernel_rfl) (fun K hK => ?_)
            go_simp
            go_at_call 30
            with_reducible refine (re_ (MayI_calls c_ d_ e_ f_ g_ c' d' e' f' g' _) (ret_bool HFT.out)).mono ?_
            rintro e w6 ⟨rfl, hbx⟩
            replace u0 := cell_below hbx u0
            replace u1 := cell_below hbx u1
            replace u2 := cell_below hbx u2
            replace u3 := cell_below hbx u3
            replace u4 := cell_below hbx u4
            replace u5 := cell_below hbx u5
            replace u6 := cell_below hbx u6
            replace k0 := cell_below hbx k0
            replace k1 := cell_below hbx k1
            replace k2_ := cell_below hbx k2_
            replace k3 := cell_below hbx k3
            replace k4 := cell_below hbx k4
            replace k5 := cell_below hbx k5
            replace k6 := cell_below hbx k6
            replace hbX := hcall hbX hbx
            replace CM := CM.below hbx
            replace D := below_call D hbx
            refine hK.out _ _ (by (try dsimp only); (exact ⟨u0, u1, u2, u3, u4, u5, u6, k0, k1, k2_, k3, k4, k5, k6⟩)) (fun hHeld => ?_)
            clear hK K
            try simp only [Act.put, List.getElem_toArray, List.getElem_cons_succ, List.getElem_cons_zero, List.setIfInBounds_toArray, List.set_cons_zero, List.set_cons_succ]
            refine Held.take (k := 11) (i := 11) (v := ?vj1p11) nosj1p okkj1p_11 sizj1p (by kernel_rfl) rfl (fun _ _ _ h => h) (Or.inl ⟨by kernel_rfl, ?hyj1p11⟩) (by assumption) ?restj1p11
            case hyj1p11 => (intro w hSw; (try dsimp only at hSw); go_simp; (try (first | with_reducible rfl | rw [if_neg (by omega)])))
            try simp only [Act.put, List.getElem_toArray, List.getElem_cons_succ, List.getElem_cons_zero, List.setIfInBounds_toArray, List.set_cons_zero, List.set_cons_succ]
            refine Held.take (k := 12) (i := 12) (v := ?vj1p12) nosj1p okkj1p_12 sizj1p (by kernel_rfl) rfl (fun _ _ _ h => h) (Or.inl ⟨by kernel_rfl, ?hyj1p12⟩) (by assumption) ?restj1p12
            case hyj1p12 => (intro w hSw; (try dsimp only at hSw); go_simp; (try (first | with_reducible rfl | rw [if_neg (by omega)])))
            try simp only [Act.put, List.getElem_toArray, List.getElem_cons_succ, List.getElem_cons_zero, List.setIfInBounds_toArray, List.set_cons_zero, List.set_cons_succ]
            refine Held.take (k := 13) (i := 13) (v := ?vj1p13) nosj1p okkj1p_13 sizj1p (by kernel_rfl) rfl (fun _ _ _ h => h) (Or.inl ⟨by kernel_rfl, ?hyj1p13⟩) (by assumption) ?restj1p13
            case hyj1p13 => (intro w hSw; (try dsimp only at hSw); go_simp; (try (first | with_reducible rfl | rw [if_neg (by omega)])))
            try simp only [Act.put, List.getElem_toArray, List.getElem_cons_succ, List.getElem_cons_zero, List.setIfInBounds_toArray, List.set_cons_zero, List.set_cons_succ]
            refine Held.take (k := 14) (i := 14) (v := undef) nosj1p okkj1p_14 sizj1p (by kernel_rfl) rfl (fun _ _ _ h => h) (Or.inr ⟨by kernel_rfl, rfl⟩) (by assumption) ?_
            try simp only [Act.put, List.getElem_toArray, List.getElem_cons_succ, List.getElem_cons_zero, List.setIfInBounds_toArray, List.set_cons_zero, List.set_cons_succ]
            refine Held.take (k := 15) (i := 15) (v := undef) nosj1p okkj1p_15 sizj1p (by kernel_rfl) rfl (fun _ _ _ h => h) (Or.inr ⟨by kernel_rfl, rfl⟩) (by assumption) ?_
            try simp only [Act.put, List.getElem_toArray, List.getElem_cons_succ, List.getElem_cons_zero, List.setIfInBounds_toArray, List.set_cons_zero, List.set_cons_succ]
            refine Held.take (k := 16) (i := 16) (v := undef) nosj1p okkj1p_16 sizj1p (by kernel_rfl) rfl (fun _ _ _ h => h) (Or.inr ⟨by kernel_rfl, rfl⟩) (by assumption) ?_
            try simp only [Act.put, List.getElem_toArray, List.getElem_cons_succ, List.getElem_cons_zero, List.setIfInBounds_toArray, List.set_cons_zero, List.set_cons_succ]
            refine Held.take (k := 17) (i := 17) (v := undef) nosj1p okkj1p_17 sizj1p (by kernel_rfl) rfl (fun _ _ _ h => h) (Or.inr ⟨by kernel_rfl, rfl⟩) (by assumption) ?_
            try simp only [Act.put, List.getElem_toArray, List.getElem_cons_succ, List.getElem_cons_zero, List.setIfInBounds_toArray, List.set_cons_zero, List.set_cons_succ]
            refine Held.take (k := 18) (i := 18) (v := undef) nosj1p okkj1p_18 sizj1p (by kernel_rfl) rfl (fun _ _ _ h => h) (Or.inr ⟨by kernel_rfl, rfl⟩) (by assumption) ?_
            try simp only [Act.put, List.getElem_toArray, List.getElem_cons_succ, List.getElem_cons_zero, List.setIfInBounds_toArray, List.set_cons_zero, List.set_cons_succ]
            refine Held.take (k := 19) (i := 19) (v := undef) nosj1p okkj1p_19 sizj1p (by kernel_rfl) rfl (fun _ _ _ h => h) (Or.inr ⟨by kernel_rfl, rfl⟩) (by assumption) ?_
            try simp only [Act.put, List.getElem_toArray, List.getElem_cons_succ, List.getElem_cons_zero, List.setIfInBounds_toArray, List.set_cons_zero, List.set_cons_succ]
            refine Held.take (k := 20) (i := 20) (v := undef) nosj1p okkj1p_20 sizj1p (by kernel_rfl) rfl (fun _ _ _ h => h) (Or.inr ⟨by kernel_rfl, rfl⟩) (by assumption) ?_
            try simp only [Act.put, List.getElem_toArray, List.getElem_cons_succ, List.getElem_cons_zero, List.setIfInBounds_toArray, List.set_cons_zero, List.set_cons_succ]
            refine Held.take (k := 21) (i := 21) (v := undef) nosj1p okkj1p_21 sizj1p (by kernel_rfl) rfl (fun _ _ _ h => h) (Or.inr ⟨by kernel_rfl, rfl⟩) (by assumption) ?_
            try simp only [Act.put, List.getElem_toArray, List.getElem_cons_succ, List.getElem_cons_zero, List.setIfInBounds_toArray, List.set_cons_zero, List.set_cons_succ]
            refine Held.take (k := 22) (i := 22) (v := undef) nosj1p okkj1p_22 sizj1p (by kernel_rfl) rfl (fun _ _ _ h => h) (Or.inr ⟨by kernel_rfl, rfl⟩) (by assumption) ?_
            try simp only [Act.put, List.getElem_toArray, List.getElem_cons_succ, List.getElem_cons_zero, List.setIfInBounds_toArray, List.set_cons_zero, List.set_cons_succ]
            refine Held.take (k := 23) (i := 23) (v := undef) nosj1p okkj1p_23 sizj1p (by kernel_rfl) rfl (fun _ _ _ h => h) (Or.inr ⟨by kernel_rfl, rfl⟩) (by assumption) ?_
            try simp only [Act.put, List.getElem_toArray, List.getElem_cons_succ, List.getElem_cons_zero, List.setIfInBounds_toArray, List.set_cons_zero, List.set_cons_succ]
            refine Held.take (k := 24) (i := 24) (v := undef) nosj1p okkj1p_24 sizj1p (by kernel_rfl) rfl (fun _ _ _ h => h) (Or.inr ⟨by kernel_rfl, rfl⟩) (by assumption) ?_
            try simp only [Act.put, List.getElem_toArray, List.getElem_cons_succ, List.getElem_cons_zero, List.setIfInBounds_toArray, List.set_cons_zero, List.set_cons_succ]
            refine Held.take (k := 25) (i := 25) (v := ?vj1p25) nosj1p okkj1p_25 sizj1p (by kernel_rfl) rfl (fun _ _ _ h => h) (Or.inl ⟨by kernel_rfl, ?hyj1p25⟩) (by assumption) ?restj1p25
            case hyj1p25 => (intro w hSw; (try dsimp only at hSw); go_simp; (try (first | with_reducible rfl | rw [if_neg (by omega)])))
            try simp only [Act.put, List.getElem_toArray, List.getElem_cons_succ, List.getElem_cons_zero, List.setIfInBounds_toArray, List.set_cons_zero, List.set_cons_succ]
            refine wpAnyH_done (by kernel_rfl) ?_ _
            clear u0 u1 u2 u3 u4 u5 u6 k0 k1 k2_ k3 k4 k5 k6
            clear CM
            go_wp2
            go_ret
            rw [HF.out]
            exact ⟨rfl, D⟩
          | true =>
            cases m1 with
            | false =>
              clear uz
              replace hbX : w5.drew.heap[_]? = _ := hbX
              replace CM : CntMap w5.drew _ _ _ := CM
              replace D : Below _ _ w5.drew := D.drew
              go_wp2_with fail
              refine Held.start (ops := opsj2p) (S := fun w' => w'.cell? ⟨wr.heap.size, 0, none⟩ = some (.string a_) ∧ w'.cell? ⟨wr.heap.size, 1, none⟩ = some (.string b_) ∧ w'.cell? ⟨wr.heap.size, 2, none⟩ = some (.bool c_) ∧ w'.cell? ⟨wr.heap.size, 3, none⟩ = some (.bool d_) ∧ w'.cell? ⟨wr.heap.size, 4, none⟩ = some (.bool e_) ∧ w'.cell? ⟨wr.heap.size, 5, none⟩ = some (.bool f_) ∧ w'.cell? ⟨wr.heap.size, 6, none⟩ = some (.bool g_) ∧ w'.cell? (ad.add (k2 * 7)) = some (.string a') ∧ w'.cell? ⟨(ad.add (k2 * 7)).block, (ad.add (k2 * 7)).off + 1, none⟩ = some (.string b') ∧ w'.cell? ⟨(ad.add (k2 * 7)).block, (ad.add (k2 * 7)).off + 2, none⟩ = some (.bool c') ∧ w'.cell? ⟨(ad.add (k2 * 7)).block, (ad.add (k2 * 7)).off + 3, none⟩ = some (.bool d') ∧ w'.cell? ⟨(ad.add (k2 * 7)).block, (ad.add (k2 * 7)).off + 4, none⟩ = some (.bool e') ∧ w'.cell? ⟨(ad.add (k2 * 7)).block, (ad.add (k2 * 7)).off + 5, none⟩ = some (.bool f') ∧ w'.cell? ⟨(ad.add (k2 * 7)).block, (ad.add (k2 * 7)).off + 6, none⟩ = some (.bool g')) ordj2p 26 (by kernel_rfl) sizj2p (by kernel_rfl) ⟨u0, u1, u2, u3, u4, u5, u6, k0, k1, k2_, k3, k4, k5, k6⟩ (fun hHeld => ?_)
              refine Held.take (k := 0) (i := 0) (v := ?vj2p0) nosj2p okkj2p_0 sizj2p (by kernel_rfl) rfl (fun _ _ _ h => h) (Or.inl ⟨by kernel_rfl, ?hyj2p0⟩) (by assumption) ?restj2p0
              case hyj2p0 => (intro w hSw; (try dsimp only at hSw); go_simp; (try (first | with_reducible rfl | rw [if_neg (by omega)])))
              try simp only [Act.put, List.getElem_toArray, List.getElem_cons_succ, List.getElem_cons_zero, List.setIfInBounds_toArray, List.set_cons_zero, List.set_cons_succ]
              refine Held.take (k := 1) (i := 1) (v := ?vj2p1) nosj2p okkj2p_1 sizj2p (by kernel_rfl) rfl (fun _ _ _ h => h) (Or.inl ⟨by kernel_rfl, ?hyj2p1⟩) (by assumption) ?restj2p1
              case hyj2p1 => (intro w hSw; (try dsimp only at hSw); go_simp; (try (first | with_reducible rfl | rw [if_neg (by omega)])))
              try simp only [Act.put, List.getElem_toArray, List.getElem_cons_succ, List.getElem_cons_zero, List.setIfInBounds_toArray, List.set_cons_zero, List.set_cons_succ]
              refine Held.take (k := 2) (i := 2) (v := ?vj2p2) nosj2p okkj2p_2 sizj2p (by kernel_rfl) rfl (fun _ _ _ h => h) (Or.inl ⟨by kernel_rfl, ?hyj2p2⟩) (by assumption) ?restj2p2
              case hyj2p2 => (intro w hSw; (try dsimp only at hSw); go_simp; (try (first | with_reducible rfl | rw [if_neg (by omega)])))
              try simp only [Act.put, List.getElem_toArray, List.getElem_cons_succ, List.getElem_cons_zero, List.setIfInBounds_toArray, List.set_cons_zero, List.set_cons_succ]
              refine Held.take (k := 3) (i := 3) (v := ?vj2p3) nosj2p okkj2p_3 sizj2p (by kernel_rfl) rfl (fun _ _ _ h => h) (Or.inl ⟨by kernel_rfl, ?hyj2p3⟩) (by assumption) ?restj2p3
              case hyj2p3 => (intro w hSw; (try dsimp only at hSw); go_simp; (try (first | with_reducible rfl | rw [if_neg (by omega)])))
              try simp only [Act.put, List.getElem_toArray, List.getElem_cons_succ, List.getElem_cons_zero, List.setIfInBounds_toArray, List.set_cons_zero, List.set_cons_succ]
              refine Held.take (k := 4) (i := 4) (v := ?vj2p4) nosj2p okkj2p_4 sizj2p (by kernel_rfl) rfl (fun _ _ _ h => h) (Or.inl ⟨by kernel_rfl, ?hyj2p4⟩) (by assumption) ?restj2p4
              case hyj2p4 => (intro w hSw; (try dsimp only at hSw); go_simp; (try (first | with_reducible rfl | rw [if_neg (by omega)])))
              try simp only [Act.put, List.getElem_toArray, List.getElem_cons_succ, List.getElem_cons_zero, List.setIfInBounds_toArray, List.set_cons_zero, List.set_cons_succ]
              refine Held.take (k := 5) (i := 5) (v := ?vj2p5) nosj2p okkj2p_5 sizj2p (by kernel_rfl) rfl (fun _ _ _ h => h) (Or.inl ⟨by kernel_rfl, ?hyj2p5⟩) (by assumption) ?restj2p5
              case hyj2p5 => (intro w hSw; (try dsimp only at hSw); go_simp; (try (first | with_reducible rfl | rw [if_neg (by omega)])))
              try simp only [Act.put, List.getElem_toArray, List.getElem_cons_succ, List.getElem_cons_zero, List.setIfInBounds_toArray, List.set_cons_zero, List.set_cons_succ]
              refine Held.take (k := 6) (i := 6) (v := ?vj2p6) nosj2p okkj2p_6 sizj2p (by kernel_rfl) rfl (fun _ _ _ h => h) (Or.inl ⟨by kernel_rfl, ?hyj2p6⟩) (by assumption) ?restj2p6
              case hyj2p6 => (intro w hSw; (try dsimp only at hSw); go_simp; (try (first | with_reducible rfl | rw [if_neg (by omega)])))
              try simp only [Act.put, List.getElem_toArray, List.getElem_cons_succ, List.getElem_cons_zero, List.setIfInBounds_toArray, List.set_cons_zero, List.set_cons_succ]
              refine Held.take (k := 7) (i := 7) (v := ?vj2p7) nosj2p okkj2p_7 sizj2p (by kernel_rfl) rfl (fun _ _ _ h => h) (Or.inl ⟨by kernel_rfl, ?hyj2p7⟩) (by assumption) ?restj2p7
              case hyj2p7 => (intro w hSw; (try dsimp only at hSw); go_simp; (try (first | with_reducible rfl | rw [if_neg (by omega)])))
              try simp only [Act.put, List.getElem_toArray, List.getElem_cons_succ, List.getElem_cons_zero, List.setIfInBounds_toArray, List.set_cons_zero, List.set_cons_succ]
              refine Held.take (k := 8) (i := 8) (v := ?vj2p8) nosj2p okkj2p_8 sizj2p (by kernel_rfl) rfl (fun _ _ _ h => h) (Or.inl ⟨by kernel_rfl, ?hyj2p8⟩) (by assumption) ?restj2p8
              case hyj2p8 => (intro w hSw; (try dsimp only at hSw); go_simp; (try (first | with_reducible rfl | rw [if_neg (by omega)])))
              try simp only [Act.put, List.getElem_toArray, List.getElem_cons_succ, List.getElem_cons_zero, List.setIfInBounds_toArray, List.set_cons_zero, List.set_cons_succ]
              refine Held.take (k := 9) (i := 9) (v := ?vj2p9) nosj2p okkj2p_9 sizj2p (by kernel_rfl) rfl (fun _ _ _ h => h) (Or.inl ⟨by kernel_rfl, ?hyj2p9⟩) (by assumption) ?restj2p9
              case hyj2p9 => (intro w hSw; (try dsimp only at hSw); go_simp; (try (first | with_reducible rfl | rw [if_neg (by omega)])))
              try simp only [Act.put, List.getElem_toArray, List.getElem_cons_succ, List.getElem_cons_zero, List.setIfInBounds_toArray, List.set_cons_zero, List.set_cons_succ]
              refine Held.only (k := 10) (i := 10) rdyj2p_10 (by kernel_rfl) rfl (by kernel_rfl) (fun K hK => ?_)
              go_simp
              go_at_call 30
              with_reducible refine (re_ (MayI_calls c_ d_ e_ f_ g_ c' d' e' f' g' _) (ret_bool HFT.out)).mono ?_
              rintro e w6 ⟨rfl, hbx⟩
              replace u0 := cell_below hbx u0
              replace u1 := cell_below hbx u1
              replace u2 := cell_below hbx u2
              replace u3 := cell_below hbx u3
              replace u4 := cell_below hbx u4
              replace u5 := cell_below hbx u5
              replace u6 := cell_below hbx u6
              replace k0 := cell_below hbx k0
              replace k1 := cell_below hbx k1
              replace k2_ := cell_below hbx k2_
              replace k3 := cell_below hbx k3
              replace k4 := cell_below hbx k4
              replace k5 := cell_below hbx k5
              replace k6 := cell_below hbx k6
              replace hbX := hcall hbX hbx
              replace CM := CM.below hbx
              replace D := below_call D hbx
              refine hK.out _ _ (by (try dsimp only); (exact ⟨u0, u1, u2, u3, u4, u5, u6, k0, k1, k2_, k3, k4, k5, k6⟩)) (fun hHeld => ?_)
              clear hK K
              try simp only [Act.put, List.getElem_toArray, List.getElem_cons_succ, List.getElem_cons_zero, List.setIfInBounds_toArray, List.set_cons_zero, List.set_cons_succ]
              refine Held.take (k := 11) (i := 11) (v := ?vj2p11) nosj2p okkj2p_11 sizj2p (by kernel_rfl) rfl (fun _ _ _ h => h) (Or.inl ⟨by kernel_rfl, ?hyj2p11⟩) (by assumption) ?restj2p11
              case hyj2p11 => (intro w hSw; (try dsimp only at hSw); go_simp; (try (first | with_reducible rfl | rw [if_neg (by omega)])))
              try simp only [Act.put, List.getElem_toArray, List.getElem_cons_succ, List.getElem_cons_zero, List.setIfInBounds_toArray, List.set_cons_zero, List.set_cons_succ]
              refine Held.take (k := 12) (i := 12) (v := ?vj2p12) nosj2p okkj2p_12 sizj2p (by kernel_rfl) rfl (fun _ _ _ h => h) (Or.inl ⟨by kernel_rfl, ?hyj2p12⟩) (by assumption) ?restj2p12
              case hyj2p12 => (intro w hSw; (try dsimp only at hSw); go_simp; (try (first | with_reducible rfl | rw [if_neg (by omega)])))
              try simp only [Act.put, List.getElem_toArray, List.getElem_cons_succ, List.getElem_cons_zero, List.setIfInBounds_toArray, List.set_cons_zero, List.set_cons_succ]
              refine Held.take (k := 13) (i := 13) (v := ?vj2p13) nosj2p okkj2p_13 sizj2p (by kernel_rfl) rfl (fun _ _ _ h => h) (Or.inl ⟨by kernel_rfl, ?hyj2p13⟩) (by assumption) ?restj2p13
              case hyj2p13 => (intro w hSw; (try dsimp only at hSw); go_simp; (try (first | with_reducible rfl | rw [if_neg (by omega)])))
              try simp only [Act.put, List.getElem_toArray, List.getElem_cons_succ, List.getElem_cons_zero, List.setIfInBounds_toArray, List.set_cons_zero, List.set_cons_succ]
              refine Held.take (k := 14) (i := 14) (v := ?vj2p14) nosj2p okkj2p_14 sizj2p (by kernel_rfl) rfl (fun _ _ _ h => h) (Or.inl ⟨by kernel_rfl, ?hyj2p14⟩) (by assumption) ?restj2p14
              case hyj2p14 => (intro w hSw; (try dsimp only at hSw); go_simp; (try (first | with_reducible rfl | rw [if_neg (by omega)])))
              try simp only [Act.put, List.getElem_toArray, List.getElem_cons_succ, List.getElem_cons_zero, List.setIfInBounds_toArray, List.set_cons_zero, List.set_cons_succ]
              refine Held.take (k := 15) (i := 15) (v := ?vj2p15) nosj2p okkj2p_15 sizj2p (by kernel_rfl) rfl (fun _ _ _ h => h) (Or.inl ⟨by kernel_rfl, ?hyj2p15⟩) (by assumption) ?restj2p15
              case hyj2p15 => (intro w hSw; (try dsimp only at hSw); go_simp; (try (first | with_reducible rfl | rw [if_neg (by omega)])))
              try simp only [Act.put, List.getElem_toArray, List.getElem_cons_succ, List.getElem_cons_zero, List.setIfInBounds_toArray, List.set_cons_zero, List.set_cons_succ]
              refine Held.only (k := 16) (i := 16) rdyj2p_16 (by kernel_rfl) rfl (by kernel_rfl) (fun K hK => ?_)
              go_simp
              go_at_call 39
              with_reducible refine (re_ (EmptyI_calls c_ d_ e_ f_ g_ _) (ret_bool HM1.out)).mono ?_
              rintro e w7 ⟨rfl, hbx⟩
              replace u0 := cell_below hbx u0
              replace u1 := cell_below hbx u1
              replace u2 := cell_below hbx u2
              replace u3 := cell_below hbx u3
              replace u4 := cell_below hbx u4
              replace u5 := cell_below hbx u5
              replace u6 := cell_below hbx u6
              replace k0 := cell_below hbx k0
              replace k1 := cell_below hbx k1
              replace k2_ := cell_below hbx k2_
              replace k3 := cell_below hbx k3
              replace k4 := cell_below hbx k4
              replace k5 := cell_below hbx k5
              replace k6 := cell_below hbx k6
              replace hbX := hcall hbX hbx
              replace CM := CM.below hbx
              replace D := below_call D hbx
              refine hK.out _ _ (by (try dsimp only); (exact ⟨u0, u1, u2, u3, u4, u5, u6, k0, k1, k2_, k3, k4, k5, k6⟩)) (fun hHeld => ?_)
              clear hK K
              try simp only [Act.put, List.getElem_toArray, List.getElem_cons_succ, List.getElem_cons_zero, List.setIfInBounds_toArray, List.set_cons_zero, List.set_cons_succ]
              refine Held.take (k := 17) (i := 17) (v := ?vj2p17) nosj2p okkj2p_17 sizj2p (by kernel_rfl) rfl (fun _ _ _ h => h) (Or.inl ⟨by kernel_rfl, ?hyj2p17⟩) (by assumption) ?restj2p17
              case hyj2p17 => (intro w hSw; (try dsimp only at hSw); go_simp; (try (first | with_reducible rfl | rw [if_neg (by omega)])))
              try simp only [Act.put, List.getElem_toArray, List.getElem_cons_succ, List.getElem_cons_zero, List.setIfInBounds_toArray, List.set_cons_zero, List.set_cons_succ]
              refine Held.take (k := 18) (i := 18) (v := undef) nosj2p okkj2p_18 sizj2p (by kernel_rfl) rfl (fun _ _ _ h => h) (Or.inr ⟨by kernel_rfl, rfl⟩) (by assumption) ?_
              try simp only [Act.put, List.getElem_toArray, List.getElem_cons_succ, List.getElem_cons_zero, List.setIfInBounds_toArray, List.set_cons_zero, List.set_cons_succ]
              refine Held.take (k := 19) (i := 19) (v := undef) nosj2p okkj2p_19 sizj2p (by kernel_rfl) rfl (fun _ _ _ h => h) (Or.inr ⟨by kernel_rfl, rfl⟩) (by assumption) ?_
              try simp only [Act.put, List.getElem_toArray, List.getElem_cons_succ, List.getElem_cons_zero, List.setIfInBounds_toArray, List.set_cons_zero, List.set_cons_succ]
              refine Held.take (k := 20) (i := 20) (v := undef) nosj2p okkj2p_20 sizj2p (by kernel_rfl) rfl (fun _ _ _ h => h) (Or.inr ⟨by kernel_rfl, rfl⟩) (by assumption) ?_
              try simp only [Act.put, List.getElem_toArray, List.getElem_cons_succ, List.getElem_cons_zero, List.setIfInBounds_toArray, List.set_cons_zero, List.set_cons_succ]
              refine Held.take (k := 21) (i := 21) (v := undef) nosj2p okkj2p_21 sizj2p (by kernel_rfl) rfl (fun _ _ _ h => h) (Or.inr ⟨by kernel_rfl, rfl⟩) (by assumption) ?_
              try simp only [Act.put, List.getElem_toArray, List.getElem_cons_succ, List.getElem_cons_zero, List.setIfInBounds_toArray, List.set_cons_zero, List.set_cons_succ]
              refine Held.take (k := 22) (i := 22) (v := undef) nosj2p okkj2p_22 sizj2p (by kernel_rfl) rfl (fun _ _ _ h => h) (Or.inr ⟨by kernel_rfl, rfl⟩) (by assumption) ?_
              try simp only [Act.put, List.getElem_toArray, List.getElem_cons_succ, List.getElem_cons_zero, List.setIfInBounds_toArray, List.set_cons_zero, List.set_cons_succ]
              refine Held.take (k := 23) (i := 23) (v := undef) nosj2p okkj2p_23 sizj2p (by kernel_rfl) rfl (fun _ _ _ h => h) (Or.inr ⟨by kernel_rfl, rfl⟩) (by assumption) ?_
              try simp only [Act.put, List.getElem_toArray, List.getElem_cons_succ, List.getElem_cons_zero, List.setIfInBounds_toArray, List.set_cons_zero, List.set_cons_succ]
              refine Held.take (k := 24) (i := 24) (v := ?vj2p24) nosj2p okkj2p_24 sizj2p (by kernel_rfl) rfl (fun _ _ _ h => h) (Or.inl ⟨by kernel_rfl, ?hyj2p24⟩) (by assumption) ?restj2p24
              case hyj2p24 => (intro w hSw; (try dsimp only at hSw); go_simp; (try (first | with_reducible rfl | rw [if_neg (by omega)])))
              try simp only [Act.put, List.getElem_toArray, List.getElem_cons_succ, List.getElem_cons_zero, List.setIfInBounds_toArray, List.set_cons_zero, List.set_cons_succ]
              refine Held.take (k := 25) (i := 25) (v := ?vj2p25) nosj2p okkj2p_25 sizj2p (by kernel_rfl) rfl (fun _ _ _ h => h) (Or.inl ⟨by kernel_rfl, ?hyj2p25⟩) (by assumption) ?restj2p25
              case hyj2p25 => (intro w hSw; (try dsimp only at hSw); go_simp; (try (first | with_reducible rfl | rw [if_neg (by omega)])))
              try simp only [Act.put, List.getElem_toArray, List.getElem_cons_succ, List.getElem_cons_zero, List.setIfInBounds_toArray, List.set_cons_zero, List.set_cons_succ]
              refine wpAnyH_done (by kernel_rfl) ?_ _
              clear u0 u1 u2 u3 u4 u5 u6 k0 k1 k2_ k3 k4 k5 k6
              have HK2 : Hid (∀ j (h : j < l.length), j < i + 1 → condRo l l[j] = true) := fun j h hj => by
                rcases Nat.lt_or_ge j i with h' | h'
                · exact HK.out j h h'
                · obtain rfl : j = i := by omega
                  rw [HCE.out, HFT.out, HM1.out]; first | rfl | (rw [HM2.out]; rfl)
              go_wp2
              exact ⟨⟨i + 1, by go_num, by omega, CM, D, HC2, HK2, HJ2⟩, by simp [intOf]; omega⟩
            | true =>
              cases m2 with
              | false =>
                clear uz
                replace hbX : w5.drew.heap[_]? = _ := hbX
                replace CM : CntMap w5.drew _ _ _ := CM
                replace D : Below _ _ w5.drew := D.drew
                go_wp2_with fail
                refine Held.start (ops := opsj3p) (S := fun w' => w'.cell? ⟨wr.heap.size, 0, none⟩ = some (.string a_) ∧ w'.cell? ⟨wr.heap.size, 1, none⟩ = some (.string b_) ∧ w'.cell? ⟨wr.heap.size, 2, none⟩ = some (.bool c_) ∧ w'.cell? ⟨wr.heap.size, 3, none⟩ = some (.bool d_) ∧ w'.cell? ⟨wr.heap.size, 4, none⟩ = some (.bool e_) ∧ w'.cell? ⟨wr.heap.size, 5, none⟩ = some (.bool f_) ∧ w'.cell? ⟨wr.heap.size, 6, none⟩ = some (.bool g_) ∧ w'.cell? (ad.add (k2 * 7)) = some (.string a') ∧ w'.cell? ⟨(ad.add (k2 * 7)).block, (ad.add (k2 * 7)).off + 1, none⟩ = some (.string b') ∧ w'.cell? ⟨(ad.add (k2 * 7)).block, (ad.add (k2 * 7)).off + 2, none⟩ = some (.bool c') ∧ w'.cell? ⟨(ad.add (k2 * 7)).block, (ad.add (k2 * 7)).off + 3, none⟩ = some (.bool d') ∧ w'.cell? ⟨(ad.add (k2 * 7)).block, (ad.add (k2 * 7)).off + 4, none⟩ = some (.bool e') ∧ w'.cell? ⟨(ad.add (k2 * 7)).block, (ad.add (k2 * 7)).off + 5, none⟩ = some (.bool f') ∧ w'.cell? ⟨(ad.add (k2 * 7)).block, (ad.add (k2 * 7)).off + 6, none⟩ = some (.bool g')) ordj3p 26 (by kernel_rfl) sizj3p (by kernel_rfl) ⟨u0, u1, u2, u3, u4, u5, u6, k0, k1, k2_, k3, k4, k5, k6⟩ (fun hHeld => ?_)
                refine Held.take (k := 0) (i := 0) (v := ?vj3p0) nosj3p okkj3p_0 sizj3p (by kernel_rfl) rfl (fun _ _ _ h => h) (Or.inl ⟨by kernel_rfl, ?hyj3p0⟩) (by assumption) ?restj3p0
                case hyj3p0 => (intro w hSw; (try dsimp only at hSw); go_simp; (try (first | with_reducible rfl | rw [if_neg (by omega)])))
                try simp only [Act.put, List.getElem_toArray, List.getElem_cons_succ, List.getElem_cons_zero, List.setIfInBounds_toArray, List.set_cons_zero, List.set_cons_succ]
                refine Held.take (k := 1) (i := 1) (v := ?vj3p1) nosj3p okkj3p_1 sizj3p (by kernel_rfl) rfl (fun _ _ _ h => h) (Or.inl ⟨by kernel_rfl, ?hyj3p1⟩) (by assumption) ?restj3p1
                case hyj3p1 => (intro w hSw; (try dsimp only at hSw); go_simp; (try (first | with_reducible rfl | rw [if_neg (by omega)])))
                try simp only [Act.put, List.getElem_toArray, List.getElem_cons_succ, List.getElem_cons_zero, List.setIfInBounds_toArray, List.set_cons_zero, List.set_cons_succ]
                refine Held.take (k := 2) (i := 2) (v := ?vj3p2) nosj3p okkj3p_2 sizj3p (by kernel_rfl) rfl (fun _ _ _ h => h) (Or.inl ⟨by kernel_rfl, ?hyj3p2⟩) (by assumption) ?restj3p2
                case hyj3p2 => (intro w hSw; (try dsimp only at hSw); go_simp; (try (first | with_reducible rfl | rw [if_neg (by omega)])))
                try simp only [Act.put, List.getElem_toArray, List.getElem_cons_succ, List.getElem_cons_zero, List.setIfInBounds_toArray, List.set_cons_zero, List.set_cons_succ]
                refine Held.take (k := 3) (i := 3) (v := ?vj3p3) nosj3p okkj3p_3 sizj3p (by kernel_rfl) rfl (fun _ _ _ h => h) (Or.inl ⟨by kernel_rfl, ?hyj3p3⟩) (by assumption) ?restj3p3
                case hyj3p3 => (intro w hSw; (try dsimp only at hSw); go_simp; (try (first | with_reducible rfl | rw [if_neg (by omega)])))
                try simp only [Act.put, List.getElem_toArray, List.getElem_cons_succ, List.getElem_cons_zero, List.setIfInBounds_toArray, List.set_cons_zero, List.set_cons_succ]
                refine Held.take (k := 4) (i := 4) (v := ?vj3p4) nosj3p okkj3p_4 sizj3p (by kernel_rfl) rfl (fun _ _ _ h => h) (Or.inl ⟨by kernel_rfl, ?hyj3p4⟩) (by assumption) ?restj3p4
                case hyj3p4 => (intro w hSw; (try dsimp only at hSw); go_simp; (try (first | with_reducible rfl | rw [if_neg (by omega)])))
                try simp only [Act.put, List.getElem_toArray, List.getElem_cons_succ, List.getElem_cons_zero, List.setIfInBounds_toArray, List.set_cons_zero, List.set_cons_succ]
                refine Held.take (k := 5) (i := 5) (v := ?vj3p5) nosj3p okkj3p_5 sizj3p (by kernel_rfl) rfl (fun _ _ _ h => h) (Or.inl ⟨by kernel_rfl, ?hyj3p5⟩) (by assumption) ?restj3p5
                case hyj3p5 => (intro w hSw; (try dsimp only at hSw); go_simp; (try (first | with_reducible rfl | rw [if_neg (by omega)])))
                try simp only [Act.put, List.getElem_toArray, List.getElem_cons_succ, List.getElem_cons_zero, List.setIfInBounds_toArray, List.set_cons_zero, List.set_cons_succ]
                refine Held.take (k := 6) (i := 6) (v := ?vj3p6) nosj3p okkj3p_6 sizj3p (by kernel_rfl) rfl (fun _ _ _ h => h) (Or.inl ⟨by kernel_rfl, ?hyj3p6⟩) (by assumption) ?restj3p6
                case hyj3p6 => (intro w hSw; (try dsimp only at hSw); go_simp; (try (first | with_reducible rfl | rw [if_neg (by omega)])))
                try simp only [Act.put, List.getElem_toArray, List.getElem_cons_succ, List.getElem_cons_zero, List.setIfInBounds_toArray, List.set_cons_zero, List.set_cons_succ]
                refine Held.take (k := 7) (i := 7) (v := ?vj3p7) nosj3p okkj3p_7 sizj3p (by kernel_rfl) rfl (fun _ _ _ h => h) (Or.inl ⟨by kernel_rfl, ?hyj3p7⟩) (by assumption) ?restj3p7
                case hyj3p7 => (intro w hSw; (try dsimp only at hSw); go_simp; (try (first | with_reducible rfl | rw [if_neg (by omega)])))
                try simp only [Act.put, List.getElem_toArray, List.getElem_cons_succ, List.getElem_cons_zero, List.setIfInBounds_toArray, List.set_cons_zero, List.set_cons_succ]
                refine Held.take (k := 8) (i := 8) (v := ?vj3p8) nosj3p okkj3p_8 sizj3p (by kernel_rfl) rfl (fun _ _ _ h => h) (Or.inl ⟨by kernel_rfl, ?hyj3p8⟩) (by assumption) ?restj3p8
                case hyj3p8 => (intro w hSw; (try dsimp only at hSw); go_simp; (try (first | with_reducible rfl | rw [if_neg (by omega)])))
                try simp only [Act.put, List.getElem_toArray, List.getElem_cons_succ, List.getElem_cons_zero, List.setIfInBounds_toArray, List.set_cons_zero, List.set_cons_succ]
                refine Held.take (k := 9) (i := 9) (v := ?vj3p9) nosj3p okkj3p_9 sizj3p (by kernel_rfl) rfl (fun _ _ _ h => h) (Or.inl ⟨by kernel_rfl, ?hyj3p9⟩) (by assumption) ?restj3p9
                case hyj3p9 => (intro w hSw; (try dsimp only at hSw); go_simp; (try (first | with_reducible rfl | rw [if_neg (by omega)])))
                try simp only [Act.put, List.getElem_toArray, List.getElem_cons_succ, List.getElem_cons_zero, List.setIfInBounds_toArray, List.set_cons_zero, List.set_cons_succ]
                refine Held.only (k := 10) (i := 10) rdyj3p_10 (by kernel_rfl) rfl (by kernel_rfl) (fun K hK => ?_)
                go_simp
                go_at_call 30
                with_reducible refine (re_ (MayI_calls c_ d_ e_ f_ g_ c' d' e' f' g' _) (ret_bool HFT.out)).mono ?_
                rintro e w6 ⟨rfl, hbx⟩
                replace u0 := cell_below hbx u0
                replace u1 := cell_below hbx u1
                replace u2 := cell_below hbx u2
                replace u3 := cell_below hbx u3
                replace u4 := cell_below hbx u4
                replace u5 := cell_below hbx u5
                replace u6 := cell_below hbx u6
                replace k0 := cell_below hbx k0
                replace k1 := cell_below hbx k1
                replace k2_ := cell_below hbx k2_
                replace k3 := cell_below hbx k3
                replace k4 := cell_below hbx k4
                replace k5 := cell_below hbx k5
                replace k6 := cell_below hbx k6
                replace hbX := hcall hbX hbx
                replace CM := CM.below hbx
                replace D := below_call D hbx
                refine hK.out _ _ (by (try dsimp only); (exact ⟨u0, u1, u2, u3, u4, u5, u6, k0, k1, k2_, k3, k4, k5, k6⟩)) (fun hHeld => ?_)
                clear hK K
                try simp only [Act.put, List.getElem_toArray, List.getElem_cons_succ, List.getElem_cons_zero, List.setIfInBounds_toArray, List.set_cons_zero, List.set_cons_succ]
                refine Held.take (k := 11) (i := 11) (v := ?vj3p11) nosj3p okkj3p_11 sizj3p (by kernel_rfl) rfl (fun _ _ _ h => h) (Or.inl ⟨by kernel_rfl, ?hyj3p11⟩) (by assumption) ?restj3p11
                case hyj3p11 => (intro w hSw; (try dsimp only at hSw); go_simp; (try (first | with_reducible rfl | rw [if_neg (by omega)])))
                try simp only [Act.put, List.getElem_toArray, List.getElem_cons_succ, List.getElem_cons_zero, List.setIfInBounds_toArray, List.set_cons_zero, List.set_cons_succ]
                refine Held.take (k := 12) (i := 12) (v := ?vj3p12) nosj3p okkj3p_12 sizj3p (by kernel_rfl) rfl (fun _ _ _ h => h) (Or.inl ⟨by kernel_rfl, ?hyj3p12⟩) (by assumption) ?restj3p12
                case hyj3p12 => (intro w hSw; (try dsimp only at hSw); go_simp; (try (first | with_reducible rfl | rw [if_neg (by omega)])))
                try simp only [Act.put, List.getElem_toArray, List.getElem_cons_succ, List.getElem_cons_zero, List.setIfInBounds_toArray, List.set_cons_zero, List.set_cons_succ]
                refine Held.take (k := 13) (i := 13) (v := ?vj3p13) nosj3p okkj3p_13 sizj3p (by kernel_rfl) rfl (fun _ _ _ h => h) (Or.inl ⟨by kernel_rfl, ?hyj3p13⟩) (by assumption) ?restj3p13
                case hyj3p13 => (intro w hSw; (try dsimp only at hSw); go_simp; (try (first | with_reducible rfl | rw [if_neg (by omega)])))
                try simp only [Act.put, List.getElem_toArray, List.getElem_cons_succ, List.getElem_cons_zero, List.setIfInBounds_toArray, List.set_cons_zero, List.set_cons_succ]
                refine Held.take (k := 14) (i := 14) (v := ?vj3p14) nosj3p okkj3p_14 sizj3p (by kernel_rfl) rfl (fun _ _ _ h => h) (Or.inl ⟨by kernel_rfl, ?hyj3p14⟩) (by assumption) ?restj3p14
                case hyj3p14 => (intro w hSw; (try dsimp only at hSw); go_simp; (try (first | with_reducible rfl | rw [if_neg (by omega)])))
                try simp only [Act.put, List.getElem_toArray, List.getElem_cons_succ, List.getElem_cons_zero, List.setIfInBounds_toArray, List.set_cons_zero, List.set_cons_succ]
                refine Held.take (k := 15) (i := 15) (v := ?vj3p15) nosj3p okkj3p_15 sizj3p (by kernel_rfl) rfl (fun _ _ _ h => h) (Or.inl ⟨by kernel_rfl, ?hyj3p15⟩) (by assumption) ?restj3p15
                case hyj3p15 => (intro w hSw; (try dsimp only at hSw); go_simp; (try (first | with_reducible rfl | rw [if_neg (by omega)])))
                try simp only [Act.put, List.getElem_toArray, List.getElem_cons_succ, List.getElem_cons_zero, List.setIfInBounds_toArray, List.set_cons_zero, List.set_cons_succ]
                refine Held.only (k := 16) (i := 16) rdyj3p_16 (by kernel_rfl) rfl (by kernel_rfl) (fun K hK => ?_)
                go_simp
                go_at_call 39
                with_reducible refine (re_ (EmptyI_calls c_ d_ e_ f_ g_ _) (ret_bool HM1.out)).mono ?_
                rintro e w7 ⟨rfl, hbx⟩
                replace u0 := cell_below hbx u0
                replace u1 := cell_below hbx u1
                replace u2 := cell_below hbx u2
                replace u3 := cell_below hbx u3
                replace u4 := cell_below hbx u4
                replace u5 := cell_below hbx u5
                replace u6 := cell_below hbx u6
                replace k0 := cell_below hbx k0
                replace k1 := cell_below hbx k1
                replace k2_ := cell_below hbx k2_
                replace k3 := cell_below hbx k3
                replace k4 := cell_below hbx k4
                replace k5 := cell_below hbx k5
                replace k6 := cell_below hbx k6
                replace hbX := hcall hbX hbx
                replace CM := CM.below hbx
                replace D := below_call D hbx
                refine hK.out _ _ (by (try dsimp only); (exact ⟨u0, u1, u2, u3, u4, u5, u6, k0, k1, k2_, k3, k4, k5, k6⟩)) (fun hHeld => ?_)
                clear hK K
                try simp only [Act.put, List.getElem_toArray, List.getElem_cons_succ, List.getElem_cons_zero, List.setIfInBounds_toArray, List.set_cons_zero, List.set_cons_succ]
                refine Held.take (k := 17) (i := 17) (v := ?vj3p17) nosj3p okkj3p_17 sizj3p (by kernel_rfl) rfl (fun _ _ _ h => h) (Or.inl ⟨by kernel_rfl, ?hyj3p17⟩) (by assumption) ?restj3p17
                case hyj3p17 => (intro w hSw; (try dsimp only at hSw); go_simp; (try (first | with_reducible rfl | rw [if_neg (by omega)])))
                try simp only [Act.put, List.getElem_toArray, List.getElem_cons_succ, List.getElem_cons_zero, List.setIfInBounds_toArray, List.set_cons_zero, List.set_cons_succ]
                refine Held.take (k := 18) (i := 18) (v := ?vj3p18) nosj3p okkj3p_18 sizj3p (by kernel_rfl) rfl (fun _ _ _ h => h) (Or.inl ⟨by kernel_rfl, ?hyj3p18⟩) (by assumption) ?restj3p18
                case hyj3p18 => (intro w hSw; (try dsimp only at hSw); go_simp; (try (first | with_reducible rfl | rw [if_neg (by omega)])))
                try simp only [Act.put, List.getElem_toArray, List.getElem_cons_succ, List.getElem_cons_zero, List.setIfInBounds_toArray, List.set_cons_zero, List.set_cons_succ]
                refine Held.take (k := 19) (i := 19) (v := ?vj3p19) nosj3p okkj3p_19 sizj3p (by kernel_rfl) rfl (fun _ _ _ h => h) (Or.inl ⟨by kernel_rfl, ?hyj3p19⟩) (by assumption) ?restj3p19
                case hyj3p19 => (intro w hSw; (try dsimp only at hSw); go_simp; (try (first | with_reducible rfl | rw [if_neg (by omega)])))
                try simp only [Act.put, List.getElem_toArray, List.getElem_cons_succ, List.getElem_cons_zero, List.setIfInBounds_toArray, List.set_cons_zero, List.set_cons_succ]
                refine Held.take (k := 20) (i := 20) (v := ?vj3p20) nosj3p okkj3p_20 sizj3p (by kernel_rfl) rfl (fun _ _ _ h => h) (Or.inl ⟨by kernel_rfl, ?hyj3p20⟩) (by assumption) ?restj3p20
                case hyj3p20 => (intro w hSw; (try dsimp only at hSw); go_simp; (try (first | with_reducible rfl | rw [if_neg (by omega)])))
                try simp only [Act.put, List.getElem_toArray, List.getElem_cons_succ, List.getElem_cons_zero, List.setIfInBounds_toArray, List.set_cons_zero, List.set_cons_succ]
                refine Held.take (k := 21) (i := 21) (v := ?vj3p21) nosj3p okkj3p_21 sizj3p (by kernel_rfl) rfl (fun _ _ _ h => h) (Or.inl ⟨by kernel_rfl, ?hyj3p21⟩) (by assumption) ?restj3p21
                case hyj3p21 => (intro w hSw; (try dsimp only at hSw); go_simp; (try (first | with_reducible rfl | rw [if_neg (by omega)])))
                try simp only [Act.put, List.getElem_toArray, List.getElem_cons_succ, List.getElem_cons_zero, List.setIfInBounds_toArray, List.set_cons_zero, List.set_cons_succ]
                refine Held.take (k := 22) (i := 22) (v := ?vj3p22) nosj3p okkj3p_22 sizj3p (by kernel_rfl) rfl (fun _ _ _ h => h) (Or.inl ⟨by kernel_rfl, ?hyj3p22⟩) (by assumption) ?restj3p22
                case hyj3p22 => (intro w hSw; (try dsimp only at hSw); go_simp; (try (first | with_reducible rfl | rw [if_neg (by omega)])))
                try simp only [Act.put, List.getElem_toArray, List.getElem_cons_succ, List.getElem_cons_zero, List.setIfInBounds_toArray, List.set_cons_zero, List.set_cons_succ]
                refine Held.only (k := 23) (i := 23) rdyj3p_23 (by kernel_rfl) rfl (by kernel_rfl) (fun K hK => ?_)
                go_simp
                go_at_call 39
                with_reducible refine (re_ (EmptyI_calls c' d' e' f' g' _) (ret_bool HM2.out)).mono ?_
                rintro e w8 ⟨rfl, hbx⟩
                replace u0 := cell_below hbx u0
                replace u1 := cell_below hbx u1
                replace u2 := cell_below hbx u2
                replace u3 := cell_below hbx u3
                replace u4 := cell_below hbx u4
                replace u5 := cell_below hbx u5
                replace u6 := cell_below hbx u6
                replace k0 := cell_below hbx k0
                replace k1 := cell_below hbx k1
                replace k2_ := cell_below hbx k2_
                replace k3 := cell_below hbx k3
                replace k4 := cell_below hbx k4
                replace k5 := cell_below hbx k5
                replace k6 := cell_below hbx k6
                replace hbX := hcall hbX hbx
                replace CM := CM.below hbx
                replace D := below_call D hbx
                refine hK.out _ _ (by (try dsimp only); (exact ⟨u0, u1, u2, u3, u4, u5, u6, k0, k1, k2_, k3, k4, k5, k6⟩)) (fun hHeld => ?_)
                clear hK K
                try simp only [Act.put, List.getElem_toArray, List.getElem_cons_succ, List.getElem_cons_zero, List.setIfInBounds_toArray, List.set_cons_zero, List.set_cons_succ]
                refine Held.take (k := 24) (i := 24) (v := ?vj3p24) nosj3p okkj3p_24 sizj3p (by kernel_rfl) rfl (fun _ _ _ h => h) (Or.inl ⟨by kernel_rfl, ?hyj3p24⟩) (by assumption) ?restj3p24
                case hyj3p24 => (intro w hSw; (try dsimp only at hSw); go_simp; (try (first | with_reducible rfl | rw [if_neg (by omega)])))
                try simp only [Act.put, List.getElem_toArray, List.getElem_cons_succ, List.getElem_cons_zero, List.setIfInBounds_toArray, List.set_cons_zero, List.set_cons_succ]
                refine Held.take (k := 25) (i := 25) (v := ?vj3p25) nosj3p okkj3p_25 sizj3p (by kernel_rfl) rfl (fun _ _ _ h => h) (Or.inl ⟨by kernel_rfl, ?hyj3p25⟩) (by assumption) ?restj3p25
                case hyj3p25 => (intro w hSw; (try dsimp only at hSw); go_simp; (try (first | with_reducible rfl | rw [if_neg (by omega)])))
                try simp only [Act.put, List.getElem_toArray, List.getElem_cons_succ, List.getElem_cons_zero, List.setIfInBounds_toArray, List.set_cons_zero, List.set_cons_succ]
                refine wpAnyH_done (by kernel_rfl) ?_ _
                clear u0 u1 u2 u3 u4 u5 u6 k0 k1 k2_ k3 k4 k5 k6
                have HK2 : Hid (∀ j (h : j < l.length), j < i + 1 → condRo l l[j] = true) := fun j h hj => by
                  rcases Nat.lt_or_ge j i with h' | h'
                  · exact HK.out j h h'
                  · obtain rfl : j = i := by omega
                    rw [HCE.out, HFT.out, HM1.out]; first | rfl | (rw [HM2.out]; rfl)
                go_wp2
                exact ⟨⟨i + 1, by go_num, by omega, CM, D, HC2, HK2, HJ2⟩, by simp [intOf]; omega⟩
              | true =>
                have HF : Hid (r = false) := by
                  show _ = _
                  rw [← HR.out]
                  exact mayRo_no_cond i hil (by rw [HCE.out, HFT.out, HM1.out, HM2.out]; rfl)
                clear uz
                replace hbX : w5.drew.heap[_]? = _ := hbX
                replace CM : CntMap w5.drew _ _ _ := CM
                replace D : Below _ _ w5.drew := D.drew
                go_wp2_with fail
                refine Held.start (ops := opsj4p) (S := fun w' => w'.cell? ⟨wr.heap.size, 0, none⟩ = some (.string a_) ∧ w'.cell? ⟨wr.heap.size, 1, none⟩ = some (.string b_) ∧ w'.cell? ⟨wr.heap.size, 2, none⟩ = some (.bool c_) ∧ w'.cell? ⟨wr.heap.size, 3, none⟩ = some (.bool d_) ∧ w'.cell? ⟨wr.heap.size, 4, none⟩ = some (.bool e_) ∧ w'.cell? ⟨wr.heap.size, 5, none⟩ = some (.bool f_) ∧ w'.cell? ⟨wr.heap.size, 6, none⟩ = some (.bool g_) ∧ w'.cell? (ad.add (k2 * 7)) = some (.string a') ∧ w'.cell? ⟨(ad.add (k2 * 7)).block, (ad.add (k2 * 7)).off + 1, none⟩ = some (.string b') ∧ w'.cell? ⟨(ad.add (k2 * 7)).block, (ad.add (k2 * 7)).off + 2, none⟩ = some (.bool c') ∧ w'.cell? ⟨(ad.add (k2 * 7)).block, (ad.add (k2 * 7)).off + 3, none⟩ = some (.bool d') ∧ w'.cell? ⟨(ad.add (k2 * 7)).block, (ad.add (k2 * 7)).off + 4, none⟩ = some (.bool e') ∧ w'.cell? ⟨(ad.add (k2 * 7)).block, (ad.add (k2 * 7)).off + 5, none⟩ = some (.bool f') ∧ w'.cell? ⟨(ad.add (k2 * 7)).block, (ad.add (k2 * 7)).off + 6, none⟩ = some (.bool g')) ordj4p 26 (by kernel_rfl) sizj4p (by kernel_rfl) ⟨u0, u1, u2, u3, u4, u5, u6, k0, k1, k2_, k3, k4, k5, k6⟩ (fun hHeld => ?_)
                refine Held.take (k := 0) (i := 0) (v := ?vj4p0) nosj4p okkj4p_0 sizj4p (by kernel_rfl) rfl (fun _ _ _ h => h) (Or.inl ⟨by kernel_rfl, ?hyj4p0⟩) (by assumption) ?restj4p0
                case hyj4p0 => (intro w hSw; (try dsimp only at hSw); go_simp; (try (first | with_reducible rfl | rw [if_neg (by omega)])))
                try simp only [Act.put, List.getElem_toArray, List.getElem_cons_succ, List.getElem_cons_zero, List.setIfInBounds_toArray, List.set_cons_zero, List.set_cons_succ]
                refine Held.take (k := 1) (i := 1) (v := ?vj4p1) nosj4p okkj4p_1 sizj4p (by kernel_rfl) rfl (fun _ _ _ h => h) (Or.inl ⟨by kernel_rfl, ?hyj4p1⟩) (by assumption) ?restj4p1
                case hyj4p1 => (intro w hSw; (try dsimp only at hSw); go_simp; (try (first | with_reducible rfl | rw [if_neg (by omega)])))
                try simp only [Act.put, List.getElem_toArray, List.getElem_cons_succ, List.getElem_cons_zero, List.setIfInBounds_toArray, List.set_cons_zero, List.set_cons_succ]
                refine Held.take (k := 2) (i := 2) (v := ?vj4p2) nosj4p okkj4p_2 sizj4p (by kernel_rfl) rfl (fun _ _ _ h => h) (Or.inl ⟨by kernel_rfl, ?hyj4p2⟩) (by assumption) ?restj4p2
                case hyj4p2 => (intro w hSw; (try dsimp only at hSw); go_simp; (try (first | with_reducible rfl | rw [if_neg (by omega)])))
                try simp only [Act.put, List.getElem_toArray, List.getElem_cons_succ, List.getElem_cons_zero, List.setIfInBounds_toArray, List.set_cons_zero, List.set_cons_succ]
                refine Held.take (k := 3) (i := 3) (v := ?vj4p3) nosj4p okkj4p_3 sizj4p (by kernel_rfl) rfl (fun _ _ _ h => h) (Or.inl ⟨by kernel_rfl, ?hyj4p3⟩) (by assumption) ?restj4p3
                case hyj4p3 => (intro w hSw; (try dsimp only at hSw); go_simp; (try (first | with_reducible rfl | rw [if_neg (by omega)])))
                try simp only [Act.put, List.getElem_toArray, List.getElem_cons_succ, List.getElem_cons_zero, List.setIfInBounds_toArray, List.set_cons_zero, List.set_cons_succ]
                refine Held.take (k := 4) (i := 4) (v := ?vj4p4) nosj4p okkj4p_4 sizj4p (by kernel_rfl) rfl (fun _ _ _ h => h) (Or.inl ⟨by kernel_rfl, ?hyj4p4⟩) (by assumption) ?restj4p4
                case hyj4p4 => (intro w hSw; (try dsimp only at hSw); go_simp; (try (first | with_reducible rfl | rw [if_neg (by omega)])))
                try simp only [Act.put, List.getElem_toArray, List.getElem_cons_succ, List.getElem_cons_zero, List.setIfInBounds_toArray, List.set_cons_zero, List.set_cons_succ]
                refine Held.take (k := 5) (i := 5) (v := ?vj4p5) nosj4p okkj4p_5 sizj4p (by kernel_rfl) rfl (fun _ _ _ h => h) (Or.inl ⟨by kernel_rfl, ?hyj4p5⟩) (by assumption) ?restj4p5
                case hyj4p5 => (intro w hSw; (try dsimp only at hSw); go_simp; (try (first | with_reducible rfl | rw [if_neg (by omega)])))
                try simp only [Act.put, List.getElem_toArray, List.getElem_cons_succ, List.getElem_cons_zero, List.setIfInBounds_toArray, List.set_cons_zero, List.set_cons_succ]
                refine Held.take (k := 6) (i := 6) (v := ?vj4p6) nosj4p okkj4p_6 sizj4p (by kernel_rfl) rfl (fun _ _ _ h => h) (Or.inl ⟨by kernel_rfl, ?hyj4p6⟩) (by assumption) ?restj4p6
                case hyj4p6 => (intro w hSw; (try dsimp only at hSw); go_simp; (try (first | with_reducible rfl | rw [if_neg (by omega)])))
                try simp only [Act.put, List.getElem_toArray, List.getElem_cons_succ, List.getElem_cons_zero, List.setIfInBounds_toArray, List.set_cons_zero, List.set_cons_succ]
                refine Held.take (k := 7) (i := 7) (v := ?vj4p7) nosj4p okkj4p_7 sizj4p (by kernel_rfl) rfl (fun _ _ _ h => h) (Or.inl ⟨by kernel_rfl, ?hyj4p7⟩) (by assumption) ?restj4p7
                case hyj4p7 => (intro w hSw; (try dsimp only at hSw); go_simp; (try (first | with_reducible rfl | rw [if_neg (by omega)])))
                try simp only [Act.put, List.getElem_toArray, List.getElem_cons_succ, List.getElem_cons_zero, List.setIfInBounds_toArray, List.set_cons_zero, List.set_cons_succ]
                refine Held.take (k := 8) (i := 8) (v := ?vj4p8) nosj4p okkj4p_8 sizj4p (by kernel_rfl) rfl (fun _ _ _ h => h) (Or.inl ⟨by kernel_rfl, ?hyj4p8⟩) (by assumption) ?restj4p8
                case hyj4p8 => (intro w hSw; (try dsimp only at hSw); go_simp; (try (first | with_reducible rfl | rw [if_neg (by omega)])))
                try simp only [Act.put, List.getElem_toArray, List.getElem_cons_succ, List.getElem_cons_zero, List.setIfInBounds_toArray, List.set_cons_zero, List.set_cons_succ]
                refine Held.take (k := 9) (i := 9) (v := ?vj4p9) nosj4p okkj4p_9 sizj4p (by kernel_rfl) rfl (fun _ _ _ h => h) (Or.inl ⟨by kernel_rfl, ?hyj4p9⟩) (by assumption) ?restj4p9
                case hyj4p9 => (intro w hSw; (try dsimp only at hSw); go_simp; (try (first | with_reducible rfl | rw [if_neg (by omega)])))
                try simp only [Act.put, List.getElem_toArray, List.getElem_cons_succ, List.getElem_cons_zero, List.setIfInBounds_toArray, List.set_cons_zero, List.set_cons_succ]
                refine Held.only (k := 10) (i := 10) rdyj4p_10 (by kernel_rfl) rfl (by kernel_rfl) (fun K hK => ?_)
                go_simp
                go_at_call 30
                with_reducible refine (re_ (MayI_calls c_ d_ e_ f_ g_ c' d' e' f' g' _) (ret_bool HFT.out)).mono ?_
                rintro e w6 ⟨rfl, hbx⟩
                replace u0 := cell_below hbx u0
                replace u1 := cell_below hbx u1
                replace u2 := cell_below hbx u2
                replace u3 := cell_below hbx u3
                replace u4 := cell_below hbx u4
                replace u5 := cell_below hbx u5
                replace u6 := cell_below hbx u6
                replace k0 := cell_below hbx k0
                replace k1 := cell_below hbx k1
                replace k2_ := cell_below hbx k2_
                replace k3 := cell_below hbx k3
                replace k4 := cell_below hbx k4
                replace k5 := cell_below hbx k5
                replace k6 := cell_below hbx k6
                replace hbX := hcall hbX hbx
                replace CM := CM.below hbx
                replace D := below_call D hbx
                refine hK.out _ _ (by (try dsimp only); (exact ⟨u0, u1, u2, u3, u4, u5, u6, k0, k1, k2_, k3, k4, k5, k6⟩)) (fun hHeld => ?_)
                clear hK K
                try simp only [Act.put, List.getElem_toArray, List.getElem_cons_succ, List.getElem_cons_zero, List.setIfInBounds_toArray, List.set_cons_zero, List.set_cons_succ]
                refine Held.take (k := 11) (i := 11) (v := ?vj4p11) nosj4p okkj4p_11 sizj4p (by kernel_rfl) rfl (fun _ _ _ h => h) (Or.inl ⟨by kernel_rfl, ?hyj4p11⟩) (by assumption) ?restj4p11
                case hyj4p11 => (intro w hSw; (try dsimp only at hSw); go_simp; (try (first | with_reducible rfl | rw [if_neg (by omega)])))
                try simp only [Act.put, List.getElem_toArray, List.getElem_cons_succ, List.getElem_cons_zero, List.setIfInBounds_toArray, List.set_cons_zero, List.set_cons_succ]
                refine Held.take (k := 12) (i := 12) (v := ?vj4p12) nosj4p okkj4p_12 sizj4p (by kernel_rfl) rfl (fun _ _ _ h => h) (Or.inl ⟨by kernel_rfl, ?hyj4p12⟩) (by assumption) ?restj4p12
                case hyj4p12 => (intro w hSw; (try dsimp only at hSw); go_simp; (try (first | with_reducible rfl | rw [if_neg (by omega)])))
                try simp only [Act.put, List.getElem_toArray, List.getElem_cons_succ, List.getElem_cons_zero, List.setIfInBounds_toArray, List.set_cons_zero, List.set_cons_succ]
                refine Held.take (k := 13) (i := 13) (v := ?vj4p13) nosj4p okkj4p_13 sizj4p (by kernel_rfl) rfl (fun _ _ _ h => h) (Or.inl ⟨by kernel_rfl, ?hyj4p13⟩) (by assumption) ?restj4p13
                case hyj4p13 => (intro w hSw; (try dsimp only at hSw); go_simp; (try (first | with_reducible rfl | rw [if_neg (by omega)])))
                try simp only [Act.put, List.getElem_toArray, List.getElem_cons_succ, List.getElem_cons_zero, List.setIfInBounds_toArray, List.set_cons_zero, List.set_cons_succ]
                refine Held.take (k := 14) (i := 14) (v := ?vj4p14) nosj4p okkj4p_14 sizj4p (by kernel_rfl) rfl (fun _ _ _ h => h) (Or.inl ⟨by kernel_rfl, ?hyj4p14⟩) (by assumption) ?restj4p14
                case hyj4p14 => (intro w hSw; (try dsimp only at hSw); go_simp; (try (first | with_reducible rfl | rw [if_neg (by omega)])))
                try simp only [Act.put, List.getElem_toArray, List.getElem_cons_succ, List.getElem_cons_zero, List.setIfInBounds_toArray, List.set_cons_zero, List.set_cons_succ]
                refine Held.take (k := 15) (i := 15) (v := ?vj4p15) nosj4p okkj4p_15 sizj4p (by kernel_rfl) rfl (fun _ _ _ h => h) (Or.inl ⟨by kernel_rfl, ?hyj4p15⟩) (by assumption) ?restj4p15
                case hyj4p15 => (intro w hSw; (try dsimp only at hSw); go_simp; (try (first | with_reducible rfl | rw [if_neg (by omega)])))
                try simp only [Act.put, List.getElem_toArray, List.getElem_cons_succ, List.getElem_cons_zero, List.setIfInBounds_toArray, List.set_cons_zero, List.set_cons_succ]
                refine Held.only (k := 16) (i := 16) rdyj4p_16 (by kernel_rfl) rfl (by kernel_rfl) (fun K hK => ?_)
                go_simp
                go_at_call 39
                with_reducible refine (re_ (EmptyI_calls c_ d_ e_ f_ g_ _) (ret_bool HM1.out)).mono ?_
                rintro e w7 ⟨rfl, hbx⟩
                replace u0 := cell_below hbx u0
                replace u1 := cell_below hbx u1
                replace u2 := cell_below hbx u2
                replace u3 := cell_below hbx u3
                replace u4 := cell_below hbx u4
                replace u5 := cell_below hbx u5
                replace u6 := cell_below hbx u6
                replace k0 := cell_below hbx k0
                replace k1 := cell_below hbx k1
                replace k2_ := cell_below hbx k2_
                replace k3 := cell_below hbx k3
                replace k4 := cell_below hbx k4
                replace k5 := cell_below hbx k5
                replace k6 := cell_below hbx k6
                replace hbX := hcall hbX hbx
                replace CM := CM.below hbx
                replace D := below_call D hbx
                refine hK.out _ _ (by (try dsimp only); (exact ⟨u0, u1, u2, u3, u4, u5, u6, k0, k1, k2_, k3, k4, k5, k6⟩)) (fun hHeld => ?_)
                clear hK K
                try simp only [Act.put, List.getElem_toArray, List.getElem_cons_succ, List.getElem_cons_zero, List.setIfInBounds_toArray, List.set_cons_zero, List.set_cons_succ]
                refine Held.take (k := 17) (i := 17) (v := ?vj4p17) nosj4p okkj4p_17 sizj4p (by kernel_rfl) rfl (fun _ _ _ h => h) (Or.inl ⟨by kernel_rfl, ?hyj4p17⟩) (by assumption) ?restj4p17
                case hyj4p17 => (intro w hSw; (try dsimp only at hSw); go_simp; (try (first | with_reducible rfl | rw [if_neg (by omega)])))
                try simp only [Act.put, List.getElem_toArray, List.getElem_cons_succ, List.getElem_cons_zero, List.setIfInBounds_toArray, List.set_cons_zero, List.set_cons_succ]
                refine Held.take (k := 18) (i := 18) (v := ?vj4p18) nosj4p okkj4p_18 sizj4p (by kernel_rfl) rfl (fun _ _ _ h => h) (Or.inl ⟨by kernel_rfl, ?hyj4p18⟩) (by assumption) ?restj4p18
                case hyj4p18 => (intro w hSw; (try dsimp only at hSw); go_simp; (try (first | with_reducible rfl | rw [if_neg (by omega)])))
                try simp only [Act.put, List.getElem_toArray, List.getElem_cons_succ, List.getElem_cons_zero, List.setIfInBounds_toArray, List.set_cons_zero, List.set_cons_succ]
                refine Held.take (k := 19) (i := 19) (v := ?vj4p19) nosj4p okkj4p_19 sizj4p (by kernel_rfl) rfl (fun _ _ _ h => h) (Or.inl ⟨by kernel_rfl, ?hyj4p19⟩) (by assumption) ?restj4p19
                case hyj4p19 => (intro w hSw; (try dsimp only at hSw); go_simp; (try (first | with_reducible rfl | rw [if_neg (by omega)])))
                try simp only [Act.put, List.getElem_toArray, List.getElem_cons_succ, List.getElem_cons_zero, List.setIfInBounds_toArray, List.set_cons_zero, List.set_cons_succ]
                refine Held.take (k := 20) (i := 20) (v := ?vj4p20) nosj4p okkj4p_20 sizj4p (by kernel_rfl) rfl (fun _ _ _ h => h) (Or.inl ⟨by kernel_rfl, ?hyj4p20⟩) (by assumption) ?restj4p20
                case hyj4p20 => (intro w hSw; (try dsimp only at hSw); go_simp; (try (first | with_reducible rfl | rw [if_neg (by omega)])))
                try simp only [Act.put, List.getElem_toArray, List.getElem_cons_succ, List.getElem_cons_zero, List.setIfInBounds_toArray, List.set_cons_zero, List.set_cons_succ]
                refine Held.take (k := 21) (i := 21) (v := ?vj4p21) nosj4p okkj4p_21 sizj4p (by kernel_rfl) rfl (fun _ _ _ h => h) (Or.inl ⟨by kernel_rfl, ?hyj4p21⟩) (by assumption) ?restj4p21
                case hyj4p21 => (intro w hSw; (try dsimp only at hSw); go_simp; (try (first | with_reducible rfl | rw [if_neg (by omega)])))
                try simp only [Act.put, List.getElem_toArray, List.getElem_cons_succ, List.getElem_cons_zero, List.setIfInBounds_toArray, List.set_cons_zero, List.set_cons_succ]
                refine Held.take (k := 22) (i := 22) (v := ?vj4p22) nosj4p okkj4p_22 sizj4p (by kernel_rfl) rfl (fun _ _ _ h => h) (Or.inl ⟨by kernel_rfl, ?hyj4p22⟩) (by assumption) ?restj4p22
                case hyj4p22 => (intro w hSw; (try dsimp only at hSw); go_simp; (try (first | with_reducible rfl | rw [if_neg (by omega)])))
                try simp only [Act.put, List.getElem_toArray, List.getElem_cons_succ, List.getElem_cons_zero, List.setIfInBounds_toArray, List.set_cons_zero, List.set_cons_succ]
                refine Held.only (k := 23) (i := 23) rdyj4p_23 (by kernel_rfl) rfl (by kernel_rfl) (fun K hK => ?_)
                go_simp
                go_at_call 39
                with_reducible refine (re_ (EmptyI_calls c' d' e' f' g' _) (ret_bool HM2.out)).mono ?_
                rintro e w8 ⟨rfl, hbx⟩
                replace u0 := cell_below hbx u0
                replace u1 := cell_below hbx u1
                replace u2 := cell_below hbx u2
                replace u3 := cell_below hbx u3
                replace u4 := cell_below hbx u4
                replace u5 := cell_below hbx u5
                replace u6 := cell_below hbx u6
                replace k0 := cell_below hbx k0
                replace k1 := cell_below hbx k1
                replace k2_ := cell_below hbx k2_
                replace k3 := cell_below hbx k3
                replace k4 := cell_below hbx k4
                replace k5 := cell_below hbx k5
                replace k6 := cell_below hbx k6
                replace hbX := hcall hbX hbx
                replace CM := CM.below hbx
                replace D := below_call D hbx
                refine hK.out _ _ (by (try dsimp only); (exact ⟨u0, u1, u2, u3, u4, u5, u6, k0, k1, k2_, k3, k4, k5, k6⟩)) (fun hHeld => ?_)
                clear hK K
                try simp only [Act.put, List.getElem_toArray, List.getElem_cons_succ, List.getElem_cons_zero, List.setIfInBounds_toArray, List.set_cons_zero, List.set_cons_succ]
                refine Held.take (k := 24) (i := 24) (v := ?vj4p24) nosj4p okkj4p_24 sizj4p (by kernel_rfl) rfl (fun _ _ _ h => h) (Or.inl ⟨by kernel_rfl, ?hyj4p24⟩) (by assumption) ?restj4p24
                case hyj4p24 => (intro w hSw; (try dsimp only at hSw); go_simp; (try (first | with_reducible rfl | rw [if_neg (by omega)])))
                try simp only [Act.put, List.getElem_toArray, List.getElem_cons_succ, List.getElem_cons_zero, List.setIfInBounds_toArray, List.set_cons_zero, List.set_cons_succ]
                refine Held.take (k := 25) (i := 25) (v := ?vj4p25) nosj4p okkj4p_25 sizj4p (by kernel_rfl) rfl (fun _ _ _ h => h) (Or.inl ⟨by kernel_rfl, ?hyj4p25⟩) (by assumption) ?restj4p25
                case hyj4p25 => (intro w hSw; (try dsimp only at hSw); go_simp; (try (first | with_reducible rfl | rw [if_neg (by omega)])))
                try simp only [Act.put, List.getElem_toArray, List.getElem_cons_succ, List.getElem_cons_zero, List.setIfInBounds_toArray, List.set_cons_zero, List.set_cons_succ]
                refine wpAnyH_done (by kernel_rfl) ?_ _
                clear u0 u1 u2 u3 u4 u5 u6 k0 k1 k2_ k3 k4 k5 k6
                clear CM
                go_wp2
                go_ret
                rw [HF.out]
                exact ⟨rfl, D⟩
      have g1 : decide ((0 : Int) < (i : Int)) = true := decide_eq_true (by omega)
      have g1n : decide (0 < i) = true := decide_eq_true (by omega)
      obtain ⟨q, hq⟩ : ∃ q, q = i - 1 := ⟨_, rfl⟩
      have hqi : q + 1 = i := by omega
      have hql : q < l.length := by omega
      obtain ⟨⟨p_, q_, r_, s_, t_, v_, x_⟩, heq⟩ : ∃ e, l[q] = e := ⟨_, rfl⟩
      have hw : IntKind.i64.wrap ((i : Int) - 1) = ((q : Nat) : Int) := by
        have : (i : Int) - 1 = (q : Int) := by omega
        rw [this, IntKind.wrap_i64]; omega
      have x1 : (0 : Int) ≤ (q : Int) := by omega
      have x2 : (q : Int) < (n : Int) := by have := EA.out; omega
      obtain ⟨bl, hbl⟩ : ∃ b, ltRo (p_, q_) (a_, b_) = b := ⟨_, rfl⟩
      have HADJ : Hid (∃ h : q + 1 < l.length, ltRo (keyRo l[q]) (keyRo l[q + 1]) = bl) := by
        subst hqi
        exact ⟨hil, by rw [heq, HE.out, ← hbl]; rfl⟩
      obtain ⟨cm, hcm⟩ : ∃ x, cmpRo (p_, q_) (a_, b_) = x := ⟨_, rfl⟩
      have hge := cmpRo_ge (p_, q_) (a_, b_)
      rw [hcm, hbl] at hge
      have HCM := Lib.hid hcm
      have HEQ := Lib.hid heq
      have HQI := Lib.hid hqi
      obtain ⟨p0, p1, p2, p3, p4, p5, p6⟩ := rowsEn (hl.below D) q hql p_ q_ r_ s_ t_ v_ x_ heq
      clear hbl hcm heq hqi hq hi0
      cases bl with
      | false =>
        have HF : Hid (r = false) := by
          show _ = _
          rw [← HR.out]
          exact mayRo_no_adj q HADJ.out.1 HADJ.out.2
        clear uz
        have hge2 : decide (0 ≤ cm) = true := by simpa using hge
        replace hbX : w2.drew.heap[_]? = _ := hbX
        replace CM : CntMap w2.drew _ _ _ := CM
        replace D : Below _ _ w2.drew := D.drew
        go_wp2_with fail
        refine Held.start (ops := opsje) (S := fun w' => w'.cell? ⟨wr.heap.size, 0, none⟩ = some (.string a_) ∧ w'.cell? ⟨wr.heap.size, 1, none⟩ = some (.string b_) ∧ w'.cell? ⟨wr.heap.size, 2, none⟩ = some (.bool c_) ∧ w'.cell? ⟨wr.heap.size, 3, none⟩ = some (.bool d_) ∧ w'.cell? ⟨wr.heap.size, 4, none⟩ = some (.bool e_) ∧ w'.cell? ⟨wr.heap.size, 5, none⟩ = some (.bool f_) ∧ w'.cell? ⟨wr.heap.size, 6, none⟩ = some (.bool g_) ∧ w'.cell? (ad.add (q * 7)) = some (.string p_) ∧ w'.cell? ⟨(ad.add (q * 7)).block, (ad.add (q * 7)).off + 1, none⟩ = some (.string q_) ∧ w'.cell? ⟨(ad.add (q * 7)).block, (ad.add (q * 7)).off + 2, none⟩ = some (.bool r_) ∧ w'.cell? ⟨(ad.add (q * 7)).block, (ad.add (q * 7)).off + 3, none⟩ = some (.bool s_) ∧ w'.cell? ⟨(ad.add (q * 7)).block, (ad.add (q * 7)).off + 4, none⟩ = some (.bool t_) ∧ w'.cell? ⟨(ad.add (q * 7)).block, (ad.add (q * 7)).off + 5, none⟩ = some (.bool v_) ∧ w'.cell? ⟨(ad.add (q * 7)).block, (ad.add (q * 7)).off + 6, none⟩ = some (.bool x_)) ordje 33 (by kernel_rfl) sizje (by kernel_rfl) ⟨u0, u1, u2, u3, u4, u5, u6, p0, p1, p2, p3, p4, p5, p6⟩ (fun hHeld => ?_)
        refine Held.take (k := 0) (i := 0) (v := ?vje0) nosje okkje_0 sizje (by kernel_rfl) rfl (fun _ _ _ h => h) (Or.inl ⟨by kernel_rfl, ?hyje0⟩) (by assumption) ?restje0
        case hyje0 => (intro w hSw; (try dsimp only at hSw); go_simp; (try (first | with_reducible rfl | rw [if_neg (by omega)])))
        try simp only [Act.put, List.getElem_toArray, List.getElem_cons_succ, List.getElem_cons_zero, List.setIfInBounds_toArray, List.set_cons_zero, List.set_cons_succ]
        refine Held.take (k := 1) (i := 1) (v := ?vje1) nosje okkje_1 sizje (by kernel_rfl) rfl (fun _ _ _ h => h) (Or.inl ⟨by kernel_rfl, ?hyje1⟩) (by assumption) ?restje1
        case hyje1 => (intro w hSw; (try dsimp only at hSw); go_simp; (try (first | with_reducible rfl | rw [if_neg (by omega)])))
        try simp only [Act.put, List.getElem_toArray, List.getElem_cons_succ, List.getElem_cons_zero, List.setIfInBounds_toArray, List.set_cons_zero, List.set_cons_succ]
        refine Held.only (k := 2) (i := 2) rdyje_2 (by kernel_rfl) rfl (by kernel_rfl) (fun K hK => ?_)
        go_simp
        go_at_call 35
        with_reducible refine (re_ (Is_calls a_ _ (by omega)) (ret_bool HNa_.out)).mono ?_
        rintro e w3 ⟨rfl, hbx⟩
        replace u0 := cell_below hbx u0
        replace u1 := cell_below hbx u1
        replace u2 := cell_below hbx u2
        replace u3 := cell_below hbx u3
        replace u4 := cell_below hbx u4
        replace u5 := cell_below hbx u5
        replace u6 := cell_below hbx u6
        replace p0 := cell_below hbx p0
        replace p1 := cell_below hbx p1
        replace p2 := cell_below hbx p2
        replace p3 := cell_below hbx p3
        replace p4 := cell_below hbx p4
        replace p5 := cell_below hbx p5
        replace p6 := cell_below hbx p6
        replace hbX := hcall hbX hbx
        replace CM := CM.below hbx
        replace D := below_call D hbx
        refine hK.out _ _ (by (try dsimp only); (exact ⟨u0, u1, u2, u3, u4, u5, u6, p0, p1, p2, p3, p4, p5, p6⟩)) (fun hHeld => ?_)
        clear hK K
        try simp only [Act.put, List.getElem_toArray, List.getElem_cons_succ, List.getElem_cons_zero, List.setIfInBounds_toArray, List.set_cons_zero, List.set_cons_succ]
        refine Held.take (k := 3) (i := 3) (v := ?vje3) nosje okkje_3 sizje (by kernel_rfl) rfl (fun _ _ _ h => h) (Or.inl ⟨by kernel_rfl, ?hyje3⟩) (by assumption) ?restje3
        case hyje3 => (intro w hSw; (try dsimp only at hSw); go_simp; (try (first | with_reducible rfl | rw [if_neg (by omega)])))
        try simp only [Act.put, List.getElem_toArray, List.getElem_cons_succ, List.getElem_cons_zero, List.setIfInBounds_toArray, List.set_cons_zero, List.set_cons_succ]
        refine Held.take (k := 4) (i := 4) (v := ?vje4) nosje okkje_4 sizje (by kernel_rfl) rfl (fun _ _ _ h => h) (Or.inl ⟨by kernel_rfl, ?hyje4⟩) (by assumption) ?restje4
        case hyje4 => (intro w hSw; (try dsimp only at hSw); go_simp; (try (first | with_reducible rfl | rw [if_neg (by omega)])))
        try simp only [Act.put, List.getElem_toArray, List.getElem_cons_succ, List.getElem_cons_zero, List.setIfInBounds_toArray, List.set_cons_zero, List.set_cons_succ]
        refine Held.take (k := 5) (i := 5) (v := ?vje5) nosje okkje_5 sizje (by kernel_rfl) rfl (fun _ _ _ h => h) (Or.inl ⟨by kernel_rfl, ?hyje5⟩) (by assumption) ?restje5
        case hyje5 => (intro w hSw; (try dsimp only at hSw); go_simp; (try (first | with_reducible rfl | rw [if_neg (by omega)])))
        try simp only [Act.put, List.getElem_toArray, List.getElem_cons_succ, List.getElem_cons_zero, List.setIfInBounds_toArray, List.set_cons_zero, List.set_cons_succ]
        refine Held.take (k := 6) (i := 6) (v := ?vje6) nosje okkje_6 sizje (by kernel_rfl) rfl (fun _ _ _ h => h) (Or.inl ⟨by kernel_rfl, ?hyje6⟩) (by assumption) ?restje6
        case hyje6 => (intro w hSw; (try dsimp only at hSw); go_simp; (try (first | with_reducible rfl | rw [if_neg (by omega)])))
        try simp only [Act.put, List.getElem_toArray, List.getElem_cons_succ, List.getElem_cons_zero, List.setIfInBounds_toArray, List.set_cons_zero, List.set_cons_succ]
        refine Held.only (k := 7) (i := 7) rdyje_7 (by kernel_rfl) rfl (by kernel_rfl) (fun K hK => ?_)
        go_simp
        go_at_call 35
        with_reducible refine (re_ (Is_calls b_ _ (by omega)) (ret_bool HNb_.out)).mono ?_
        rintro e w4 ⟨rfl, hbx⟩
        replace u0 := cell_below hbx u0
        replace u1 := cell_below hbx u1
        replace u2 := cell_below hbx u2
        replace u3 := cell_below hbx u3
        replace u4 := cell_below hbx u4
        replace u5 := cell_below hbx u5
        replace u6 := cell_below hbx u6
        replace p0 := cell_below hbx p0
        replace p1 := cell_below hbx p1
        replace p2 := cell_below hbx p2
        replace p3 := cell_below hbx p3
        replace p4 := cell_below hbx p4
        replace p5 := cell_below hbx p5
        replace p6 := cell_below hbx p6
        replace hbX := hcall hbX hbx
        replace CM := CM.below hbx
        replace D := below_call D hbx
        refine hK.out _ _ (by (try dsimp only); (exact ⟨u0, u1, u2, u3, u4, u5, u6, p0, p1, p2, p3, p4, p5, p6⟩)) (fun hHeld => ?_)
        clear hK K
        try simp only [Act.put, List.getElem_toArray, List.getElem_cons_succ, List.getElem_cons_zero, List.setIfInBounds_toArray, List.set_cons_zero, List.set_cons_succ]
        refine Held.take (k := 8) (i := 8) (v := ?vje8) nosje okkje_8 sizje (by kernel_rfl) rfl (fun _ _ _ h => h) (Or.inl ⟨by kernel_rfl, ?hyje8⟩) (by assumption) ?restje8
        case hyje8 => (intro w hSw; (try dsimp only at hSw); go_simp; (try (first | with_reducible rfl | rw [if_neg (by omega)])))
        try simp only [Act.put, List.getElem_toArray, List.getElem_cons_succ, List.getElem_cons_zero, List.setIfInBounds_toArray, List.set_cons_zero, List.set_cons_succ]
        refine Held.take (k := 9) (i := 9) (v := ?vje9) nosje okkje_9 sizje (by kernel_rfl) rfl (fun _ _ _ h => h) (Or.inl ⟨by kernel_rfl, ?hyje9⟩) (by assumption) ?restje9
        case hyje9 => (intro w hSw; (try dsimp only at hSw); go_simp; (try (first | with_reducible rfl | rw [if_neg (by omega)])))
        try simp only [Act.put, List.getElem_toArray, List.getElem_cons_succ, List.getElem_cons_zero, List.setIfInBounds_toArray, List.set_cons_zero, List.set_cons_succ]
        refine Held.take (k := 10) (i := 10) (v := ?vje10) nosje okkje_10 sizje (by kernel_rfl) rfl (fun _ _ _ h => h) (Or.inl ⟨by kernel_rfl, ?hyje10⟩) (by assumption) ?restje10
        case hyje10 => (intro w hSw; (try dsimp only at hSw); go_simp; (try (first | with_reducible rfl | rw [if_neg (by omega)])))
        try simp only [Act.put, List.getElem_toArray, List.getElem_cons_succ, List.getElem_cons_zero, List.setIfInBounds_toArray, List.set_cons_zero, List.set_cons_succ]
        refine Held.take (k := 11) (i := 11) (v := ?vje11) nosje okkje_11 sizje (by kernel_rfl) rfl (fun _ _ _ h => h) (Or.inl ⟨by kernel_rfl, ?hyje11⟩) (by assumption) ?restje11
        case hyje11 => (intro w hSw; (try dsimp only at hSw); go_simp; (try (first | with_reducible rfl | rw [if_neg (by omega)])))
        try simp only [Act.put, List.getElem_toArray, List.getElem_cons_succ, List.getElem_cons_zero, List.setIfInBounds_toArray, List.set_cons_zero, List.set_cons_succ]
        refine Held.take (k := 12) (i := 12) (v := ?vje12) nosje okkje_12 sizje (by kernel_rfl) rfl (fun _ _ _ h => h) (Or.inl ⟨by kernel_rfl, ?hyje12⟩) (by assumption) ?restje12
        case hyje12 => (intro w hSw; (try dsimp only at hSw); go_simp; (try (first | with_reducible rfl | rw [if_neg (by omega)])))
        try simp only [Act.put, List.getElem_toArray, List.getElem_cons_succ, List.getElem_cons_zero, List.setIfInBounds_toArray, List.set_cons_zero, List.set_cons_succ]
        refine Held.take (k := 13) (i := 13) (v := ?vje13) nosje okkje_13 sizje (by kernel_rfl) rfl (fun _ _ _ h => h) (Or.inl ⟨by kernel_rfl, ?hyje13⟩) (by assumption) ?restje13
        case hyje13 => (intro w hSw; (try dsimp only at hSw); go_simp; (try (first | with_reducible rfl | rw [if_neg (by omega)])))
        try simp only [Act.put, List.getElem_toArray, List.getElem_cons_succ, List.getElem_cons_zero, List.setIfInBounds_toArray, List.set_cons_zero, List.set_cons_succ]
        refine Held.take (k := 14) (i := 14) (v := ?vje14) nosje okkje_14 sizje (by kernel_rfl) rfl (fun _ _ _ h => h) (Or.inl ⟨by kernel_rfl, ?hyje14⟩) (by assumption) ?restje14
        case hyje14 => (intro w hSw; (try dsimp only at hSw); go_simp; (try (first | with_reducible rfl | rw [if_neg (by omega)])))
        try simp only [Act.put, List.getElem_toArray, List.getElem_cons_succ, List.getElem_cons_zero, List.setIfInBounds_toArray, List.set_cons_zero, List.set_cons_succ]
        refine Held.take (k := 15) (i := 15) (v := ?vje15) nosje okkje_15 sizje (by kernel_rfl) rfl (fun _ _ _ h => h) (Or.inl ⟨by kernel_rfl, ?hyje15⟩) (by assumption) ?restje15
        case hyje15 => (intro w hSw; (try dsimp only at hSw); go_simp; (try (first | with_reducible rfl | rw [if_neg (by omega)])))
        try simp only [Act.put, List.getElem_toArray, List.getElem_cons_succ, List.getElem_cons_zero, List.setIfInBounds_toArray, List.set_cons_zero, List.set_cons_succ]
        refine Held.take (k := 16) (i := 16) (v := ?vje16) nosje okkje_16 sizje (by kernel_rfl) rfl (fun _ _ _ h => h) (Or.inl ⟨by kernel_rfl, ?hyje16⟩) (by assumption) ?restje16
        case hyje16 => (intro w hSw; (try dsimp only at hSw); go_simp; (try (first | with_reducible rfl | rw [if_neg (by omega)])))
        try simp only [Act.put, List.getElem_toArray, List.getElem_cons_succ, List.getElem_cons_zero, List.setIfInBounds_toArray, List.set_cons_zero, List.set_cons_succ]
        refine Held.take (k := 17) (i := 17) (v := ?vje17) nosje okkje_17 sizje (by kernel_rfl) rfl (fun _ _ _ h => h) (Or.inl ⟨by kernel_rfl, ?hyje17⟩) (by assumption) ?restje17
        case hyje17 => (intro w hSw; (try dsimp only at hSw); go_simp; (try (first | with_reducible rfl | rw [if_neg (by omega)])))
        try simp only [Act.put, List.getElem_toArray, List.getElem_cons_succ, List.getElem_cons_zero, List.setIfInBounds_toArray, List.set_cons_zero, List.set_cons_succ]
        refine Held.take (k := 18) (i := 18) (v := ?vje18) nosje okkje_18 sizje (by kernel_rfl) rfl (fun _ _ _ h => h) (Or.inl ⟨by kernel_rfl, ?hyje18⟩) (by assumption) ?restje18
        case hyje18 => (intro w hSw; (try dsimp only at hSw); go_simp; (try (first | with_reducible rfl | rw [if_neg (by omega)])))
        try simp only [Act.put, List.getElem_toArray, List.getElem_cons_succ, List.getElem_cons_zero, List.setIfInBounds_toArray, List.set_cons_zero, List.set_cons_succ]
        refine Held.take (k := 19) (i := 19) (v := ?vje19) nosje okkje_19 sizje (by kernel_rfl) rfl (fun _ _ _ h => h) (Or.inl ⟨by kernel_rfl, ?hyje19⟩) (by assumption) ?restje19
        case hyje19 => (intro w hSw; (try dsimp only at hSw); go_simp; (try (first | with_reducible rfl | rw [if_neg (by omega)])))
        try simp only [Act.put, List.getElem_toArray, List.getElem_cons_succ, List.getElem_cons_zero, List.setIfInBounds_toArray, List.set_cons_zero, List.set_cons_succ]
        refine Held.take (k := 20) (i := 20) (v := ?vje20) nosje okkje_20 sizje (by kernel_rfl) rfl (fun _ _ _ h => h) (Or.inl ⟨by kernel_rfl, ?hyje20⟩) (by assumption) ?restje20
        case hyje20 => (intro w hSw; (try dsimp only at hSw); go_simp; (try (first | with_reducible rfl | rw [if_neg (by omega)])))
        try simp only [Act.put, List.getElem_toArray, List.getElem_cons_succ, List.getElem_cons_zero, List.setIfInBounds_toArray, List.set_cons_zero, List.set_cons_succ]
        refine Held.take (k := 21) (i := 21) (v := ?vje21) nosje okkje_21 sizje (by kernel_rfl) rfl (fun _ _ _ h => h) (Or.inl ⟨by kernel_rfl, ?hyje21⟩) (by assumption) ?restje21
        case hyje21 => (intro w hSw; (try dsimp only at hSw); go_simp; (try (first | with_reducible rfl | rw [if_neg (by omega)])))
        try simp only [Act.put, List.getElem_toArray, List.getElem_cons_succ, List.getElem_cons_zero, List.setIfInBounds_toArray, List.set_cons_zero, List.set_cons_succ]
        refine Held.take (k := 22) (i := 22) (v := ?vje22) nosje okkje_22 sizje (by kernel_rfl) rfl (fun _ _ _ h => h) (Or.inl ⟨by kernel_rfl, ?hyje22⟩) (by assumption) ?restje22
        case hyje22 => (intro w hSw; (try dsimp only at hSw); go_simp; (try (first | with_reducible rfl | rw [if_neg (by omega)])))
        try simp only [Act.put, List.getElem_toArray, List.getElem_cons_succ, List.getElem_cons_zero, List.setIfInBounds_toArray, List.set_cons_zero, List.set_cons_succ]
        refine Held.take (k := 23) (i := 23) (v := ?vje23) nosje okkje_23 sizje (by kernel_rfl) rfl (fun _ _ _ h => h) (Or.inl ⟨by kernel_rfl, ?hyje23⟩) (by assumption) ?restje23
        case hyje23 => (intro w hSw; (try dsimp only at hSw); go_simp; (try (first | with_reducible rfl | rw [if_neg (by omega)])))
        try simp only [Act.put, List.getElem_toArray, List.getElem_cons_succ, List.getElem_cons_zero, List.setIfInBounds_toArray, List.set_cons_zero, List.set_cons_succ]
        refine Held.take (k := 24) (i := 24) (v := ?vje24) nosje okkje_24 sizje (by kernel_rfl) rfl (fun _ _ _ h => h) (Or.inl ⟨by kernel_rfl, ?hyje24⟩) (by assumption) ?restje24
        case hyje24 => (intro w hSw; (try dsimp only at hSw); go_simp; (try (first | with_reducible rfl | rw [if_neg (by omega)])))
        try simp only [Act.put, List.getElem_toArray, List.getElem_cons_succ, List.getElem_cons_zero, List.setIfInBounds_toArray, List.set_cons_zero, List.set_cons_succ]
        refine Held.take (k := 25) (i := 25) (v := ?vje25) nosje okkje_25 sizje (by kernel_rfl) rfl (fun _ _ _ h => h) (Or.inl ⟨by kernel_rfl, ?hyje25⟩) (by assumption) ?restje25
        case hyje25 => (intro w hSw; (try dsimp only at hSw); go_simp; (try (first | with_reducible rfl | rw [if_neg (by omega)])))
        try simp only [Act.put, List.getElem_toArray, List.getElem_cons_succ, List.getElem_cons_zero, List.setIfInBounds_toArray, List.set_cons_zero, List.set_cons_succ]
        refine Held.take (k := 26) (i := 27) (v := ?vje26) nosje okkje_26 sizje (by kernel_rfl) rfl (fun _ _ _ h => h) (Or.inl ⟨by kernel_rfl, ?hyje26⟩) (by assumption) ?restje26
        case hyje26 => (intro w hSw; (try dsimp only at hSw); go_simp; (try (first | with_reducible rfl | rw [if_neg (by omega)])))
        try simp only [Act.put, List.getElem_toArray, List.getElem_cons_succ, List.getElem_cons_zero, List.setIfInBounds_toArray, List.set_cons_zero, List.set_cons_succ]
        refine Held.only (k := 27) (i := 26) rdyje_27 (by kernel_rfl) rfl (by kernel_rfl) (fun K hK => ?_)
        go_simp
        go_at_call 37
        with_reducible refine (ofK_calls p_ q_ r_ s_ t_ v_ x_ _).mono ?_
        rintro e w5 ⟨rfl, hbx⟩
        replace u0 := cell_below hbx u0
        replace u1 := cell_below hbx u1
        replace u2 := cell_below hbx u2
        replace u3 := cell_below hbx u3
        replace u4 := cell_below hbx u4
        replace u5 := cell_below hbx u5
        replace u6 := cell_below hbx u6
        replace p0 := cell_below hbx p0
        replace p1 := cell_below hbx p1
        replace p2 := cell_below hbx p2
        replace p3 := cell_below hbx p3
        replace p4 := cell_below hbx p4
        replace p5 := cell_below hbx p5
        replace p6 := cell_below hbx p6
        replace hbX := hcall hbX hbx
        replace CM := CM.below hbx
        replace D := below_call D hbx
        refine hK.out _ _ (by (try dsimp only); (exact ⟨u0, u1, u2, u3, u4, u5, u6, p0, p1, p2, p3, p4, p5, p6⟩)) (fun hHeld => ?_)
        clear hK K
        try simp only [Act.put, List.getElem_toArray, List.getElem_cons_succ, List.getElem_cons_zero, List.setIfInBounds_toArray, List.set_cons_zero, List.set_cons_succ]
        refine Held.only (k := 28) (i := 28) rdyje_28 (by kernel_rfl) rfl (by kernel_rfl) (fun K hK => ?_)
        go_simp
        go_at_call 37
        with_reducible refine (ofK_calls a_ b_ c_ d_ e_ f_ g_ _).mono ?_
        rintro e w6 ⟨rfl, hbx⟩
        replace u0 := cell_below hbx u0
        replace u1 := cell_below hbx u1
        replace u2 := cell_below hbx u2
        replace u3 := cell_below hbx u3
        replace u4 := cell_below hbx u4
        replace u5 := cell_below hbx u5
        replace u6 := cell_below hbx u6
        replace p0 := cell_below hbx p0
        replace p1 := cell_below hbx p1
        replace p2 := cell_below hbx p2
        replace p3 := cell_below hbx p3
        replace p4 := cell_below hbx p4
        replace p5 := cell_below hbx p5
        replace p6 := cell_below hbx p6
        replace hbX := hcall hbX hbx
        replace CM := CM.below hbx
        replace D := below_call D hbx
        refine hK.out _ _ (by (try dsimp only); (exact ⟨u0, u1, u2, u3, u4, u5, u6, p0, p1, p2, p3, p4, p5, p6⟩)) (fun hHeld => ?_)
        clear hK K
        try simp only [Act.put, List.getElem_toArray, List.getElem_cons_succ, List.getElem_cons_zero, List.setIfInBounds_toArray, List.set_cons_zero, List.set_cons_succ]
        refine Held.only (k := 29) (i := 29) rdyje_29 (by kernel_rfl) rfl (by kernel_rfl) (fun K hK => ?_)
        go_simp
        go_at_call 36
        with_reducible refine (re_ (orderR_calls p_ q_ a_ b_ _) (by rw [HCM.out])).mono ?_
        rintro e w7 ⟨rfl, hbx⟩
        replace u0 := cell_below hbx u0
        replace u1 := cell_below hbx u1
        replace u2 := cell_below hbx u2
        replace u3 := cell_below hbx u3
        replace u4 := cell_below hbx u4
        replace u5 := cell_below hbx u5
        replace u6 := cell_below hbx u6
        replace p0 := cell_below hbx p0
        replace p1 := cell_below hbx p1
        replace p2 := cell_below hbx p2
        replace p3 := cell_below hbx p3
        replace p4 := cell_below hbx p4
        replace p5 := cell_below hbx p5
        replace p6 := cell_below hbx p6
        replace hbX := hcall hbX hbx
        replace CM := CM.below hbx
        replace D := below_call D hbx
        refine hK.out _ _ (by (try dsimp only); (exact ⟨u0, u1, u2, u3, u4, u5, u6, p0, p1, p2, p3, p4, p5, p6⟩)) (fun hHeld => ?_)
        clear hK K
        try simp only [Act.put, List.getElem_toArray, List.getElem_cons_succ, List.getElem_cons_zero, List.setIfInBounds_toArray, List.set_cons_zero, List.set_cons_succ]
        refine Held.take (k := 30) (i := 30) (v := ?vje30) nosje okkje_30 sizje (by kernel_rfl) rfl (fun _ _ _ h => h) (Or.inl ⟨by kernel_rfl, ?hyje30⟩) (by assumption) ?restje30
        case hyje30 => (intro w hSw; (try dsimp only at hSw); go_simp; (try (first | with_reducible rfl | rw [if_neg (by omega)])))
        try simp only [Act.put, List.getElem_toArray, List.getElem_cons_succ, List.getElem_cons_zero, List.setIfInBounds_toArray, List.set_cons_zero, List.set_cons_succ]
        refine Held.take (k := 31) (i := 31) (v := ?vje31) nosje okkje_31 sizje (by kernel_rfl) rfl (fun _ _ _ h => h) (Or.inl ⟨by kernel_rfl, ?hyje31⟩) (by assumption) ?restje31
        case hyje31 => (intro w hSw; (try dsimp only at hSw); go_simp; (try (first | with_reducible rfl | rw [if_neg (by omega)])))
        try simp only [Act.put, List.getElem_toArray, List.getElem_cons_succ, List.getElem_cons_zero, List.setIfInBounds_toArray, List.set_cons_zero, List.set_cons_succ]
        refine Held.take (k := 32) (i := 32) (v := ?vje32) nosje okkje_32 sizje (by kernel_rfl) rfl (fun _ _ _ h => h) (Or.inl ⟨by kernel_rfl, ?hyje32⟩) (by assumption) ?restje32
        case hyje32 => (intro w hSw; (try dsimp only at hSw); go_simp; (try (first | with_reducible rfl | rw [if_neg (by omega)])))
        try simp only [Act.put, List.getElem_toArray, List.getElem_cons_succ, List.getElem_cons_zero, List.setIfInBounds_toArray, List.set_cons_zero, List.set_cons_succ]
        refine wpAnyH_done (by kernel_rfl) ?_ _
        clear u0 u1 u2 u3 u4 u5 u6 p0 p1 p2 p3 p4 p5 p6
        clear CM
        go_wp2
        go_ret
        rw [HF.out]
        exact ⟨rfl, D⟩
      | true =>
        have HJ2 : Hid (∀ j (h : j + 1 < l.length), j + 1 < i + 1 → ltRo (keyRo l[j]) (keyRo l[j + 1]) = true) := fun j h hj => by
          rcases Nat.lt_or_ge (j + 1) i with h' | h'
          · exact HJ.out j h h'
          · obtain rfl : j = q := by have := HQI.out; omega
            exact HADJ.out.2
        clear uz
        have hge2 : decide (0 ≤ cm) = false := by simpa using hge
        replace hbX : w2.drew.heap[_]? = _ := hbX
        replace CM : CntMap w2.drew _ _ _ := CM
        replace D : Below _ _ w2.drew := D.drew
        go_wp2_with fail
        refine Held.start (ops := opsjf) (S := fun w' => w'.cell? ⟨wr.heap.size, 0, none⟩ = some (.string a_) ∧ w'.cell? ⟨wr.heap.size, 1, none⟩ = some (.string b_) ∧ w'.cell? ⟨wr.heap.size, 2, none⟩ = some (.bool c_) ∧ w'.cell? ⟨wr.heap.size, 3, none⟩ = some (.bool d_) ∧ w'.cell? ⟨wr.heap.size, 4, none⟩ = some (.bool e_) ∧ w'.cell? ⟨wr.heap.size, 5, none⟩ = some (.bool f_) ∧ w'.cell? ⟨wr.heap.size, 6, none⟩ = some (.bool g_) ∧ w'.cell? (ad.add (q * 7)) = some (.string p_) ∧ w'.cell? ⟨(ad.add (q * 7)).block, (ad.add (q * 7)).off + 1, none⟩ = some (.string q_) ∧ w'.cell? ⟨(ad.add (q * 7)).block, (ad.add (q * 7)).off + 2, none⟩ = some (.bool r_) ∧ w'.cell? ⟨(ad.add (q * 7)).block, (ad.add (q * 7)).off + 3, none⟩ = some (.bool s_) ∧ w'.cell? ⟨(ad.add (q * 7)).block, (ad.add (q * 7)).off + 4, none⟩ = some (.bool t_) ∧ w'.cell? ⟨(ad.add (q * 7)).block, (ad.add (q * 7)).off + 5, none⟩ = some (.bool v_) ∧ w'.cell? ⟨(ad.add (q * 7)).block, (ad.add (q * 7)).off + 6, none⟩ = some (.bool x_)) ordjf 33 (by kernel_rfl) sizjf (by kernel_rfl) ⟨u0, u1, u2, u3, u4, u5, u6, p0, p1, p2, p3, p4, p5, p6⟩ (fun hHeld => ?_)
        refine Held.take (k := 0) (i := 0) (v := ?vjf0) nosjf okkjf_0 sizjf (by kernel_rfl) rfl (fun _ _ _ h => h) (Or.inl ⟨by kernel_rfl, ?hyjf0⟩) (by assumption) ?restjf0
        case hyjf0 => (intro w hSw; (try dsimp only at hSw); go_simp; (try (first | with_reducible rfl | rw [if_neg (by omega)])))
        try simp only [Act.put, List.getElem_toArray, List.getElem_cons_succ, List.getElem_cons_zero, List.setIfInBounds_toArray, List.set_cons_zero, List.set_cons_succ]
        refine Held.take (k := 1) (i := 1) (v := ?vjf1) nosjf okkjf_1 sizjf (by kernel_rfl) rfl (fun _ _ _ h => h) (Or.inl ⟨by kernel_rfl, ?hyjf1⟩) (by assumption) ?restjf1
        case hyjf1 => (intro w hSw; (try dsimp only at hSw); go_simp; (try (first | with_reducible rfl | rw [if_neg (by omega)])))
        try simp only [Act.put, List.getElem_toArray, List.getElem_cons_succ, List.getElem_cons_zero, List.setIfInBounds_toArray, List.set_cons_zero, List.set_cons_succ]
        refine Held.only (k := 2) (i := 2) rdyjf_2 (by kernel_rfl) rfl (by kernel_rfl) (fun K hK => ?_)
        go_simp
        go_at_call 35
        with_reducible refine (re_ (Is_calls a_ _ (by omega)) (ret_bool HNa_.out)).mono ?_
        rintro e w3 ⟨rfl, hbx⟩
        replace u0 := cell_below hbx u0
        replace u1 := cell_below hbx u1
        replace u2 := cell_below hbx u2
        replace u3 := cell_below hbx u3
        replace u4 := cell_below hbx u4
        replace u5 := cell_below hbx u5
        replace u6 := cell_below hbx u6
        replace p0 := cell_below hbx p0
        replace p1 := cell_below hbx p1
        replace p2 := cell_below hbx p2
        replace p3 := cell_below hbx p3
        replace p4 := cell_below hbx p4
        replace p5 := cell_below hbx p5
        replace p6 := cell_below hbx p6
        replace hbX := hcall hbX hbx
        replace CM := CM.below hbx
        replace D := below_call D hbx
        refine hK.out _ _ (by (try dsimp only); (exact ⟨u0, u1, u2, u3, u4, u5, u6, p0, p1, p2, p3, p4, p5, p6⟩)) (fun hHeld => ?_)
        clear hK K
        try simp only [Act.put, List.getElem_toArray, List.getElem_cons_succ, List.getElem_cons_zero, List.setIfInBounds_toArray, List.set_cons_zero, List.set_cons_succ]
        refine Held.take (k := 3) (i := 3) (v := ?vjf3) nosjf okkjf_3 sizjf (by kernel_rfl) rfl (fun _ _ _ h => h) (Or.inl ⟨by kernel_rfl, ?hyjf3⟩) (by assumption) ?restjf3
        case hyjf3 => (intro w hSw; (try dsimp only at hSw); go_simp; (try (first | with_reducible rfl | rw [if_neg (by omega)])))
        try simp only [Act.put, List.getElem_toArray, List.getElem_cons_succ, List.getElem_cons_zero, List.setIfInBounds_toArray, List.set_cons_zero, List.set_cons_succ]
        refine Held.take (k := 4) (i := 4) (v := ?vjf4) nosjf okkjf_4 sizjf (by kernel_rfl) rfl (fun _ _ _ h => h) (Or.inl ⟨by kernel_rfl, ?hyjf4⟩) (by assumption) ?restjf4
        case hyjf4 => (intro w hSw; (try dsimp only at hSw); go_simp; (try (first | with_reducible rfl | rw [if_neg (by omega)])))
        try simp only [Act.put, List.getElem_toArray, List.getElem_cons_succ, List.getElem_cons_zero, List.setIfInBounds_toArray, List.set_cons_zero, List.set_cons_succ]
        refine Held.take (k := 5) (i := 5) (v := ?vjf5) nosjf okkjf_5 sizjf (by kernel_rfl) rfl (fun _ _ _ h => h) (Or.inl ⟨by kernel_rfl, ?hyjf5⟩) (by assumption) ?restjf5
        case hyjf5 => (intro w hSw; (try dsimp only at hSw); go_simp; (try (first | with_reducible rfl | rw [if_neg (by omega)])))
        try simp only [Act.put, List.getElem_toArray, List.getElem_cons_succ, List.getElem_cons_zero, List.setIfInBounds_toArray, List.set_cons_zero, List.set_cons_succ]
        refine Held.take (k := 6) (i := 6) (v := ?vjf6) nosjf okkjf_6 sizjf (by kernel_rfl) rfl (fun _ _ _ h => h) (Or.inl ⟨by kernel_rfl, ?hyjf6⟩) (by assumption) ?restjf6
        case hyjf6 => (intro w hSw; (try dsimp only at hSw); go_simp; (try (first | with_reducible rfl | rw [if_neg (by omega)])))
        try simp only [Act.put, List.getElem_toArray, List.getElem_cons_succ, List.getElem_cons_zero, List.setIfInBounds_toArray, List.set_cons_zero, List.set_cons_succ]
        refine Held.only (k := 7) (i := 7) rdyjf_7 (by kernel_rfl) rfl (by kernel_rfl) (fun K hK => ?_)
        go_simp
        go_at_call 35
        with_reducible refine (re_ (Is_calls b_ _ (by omega)) (ret_bool HNb_.out)).mono ?_
        rintro e w4 ⟨rfl, hbx⟩
        replace u0 := cell_below hbx u0
        replace u1 := cell_below hbx u1
        replace u2 := cell_below hbx u2
        replace u3 := cell_below hbx u3
        replace u4 := cell_below hbx u4
        replace u5 := cell_below hbx u5
        replace u6 := cell_below hbx u6
        replace p0 := cell_below hbx p0
        replace p1 := cell_below hbx p1
        replace p2 := cell_below hbx p2
        replace p3 := cell_below hbx p3
        replace p4 := cell_below hbx p4
        replace p5 := cell_below hbx p5
        replace p6 := cell_below hbx p6
        replace hbX := hcall hbX hbx
        replace CM := CM.below hbx
        replace D := below_call D hbx
        refine hK.out _ _ (by (try dsimp only); (exact ⟨u0, u1, u2, u3, u4, u5, u6, p0, p1, p2, p3, p4, p5, p6⟩)) (fun hHeld => ?_)
        clear hK K
        try simp only [Act.put, List.getElem_toArray, List.getElem_cons_succ, List.getElem_cons_zero, List.setIfInBounds_toArray, List.set_cons_zero, List.set_cons_succ]
        refine Held.take (k := 8) (i := 8) (v := ?vjf8) nosjf okkjf_8 sizjf (by kernel_rfl) rfl (fun _ _ _ h => h) (Or.inl ⟨by kernel_rfl, ?hyjf8⟩) (by assumption) ?restjf8
        case hyjf8 => (intro w hSw; (try dsimp only at hSw); go_simp; (try (first | with_reducible rfl | rw [if_neg (by omega)])))
        try simp only [Act.put, List.getElem_toArray, List.getElem_cons_succ, List.getElem_cons_zero, List.setIfInBounds_toArray, List.set_cons_zero, List.set_cons_succ]
        refine Held.take (k := 9) (i := 9) (v := ?vjf9) nosjf okkjf_9 sizjf (by kernel_rfl) rfl (fun _ _ _ h => h) (Or.inl ⟨by kernel_rfl, ?hyjf9⟩) (by assumption) ?restjf9
        case hyjf9 => (intro w hSw; (try dsimp only at hSw); go_simp; (try (first | with_reducible rfl | rw [if_neg (by omega)])))
        try simp only [Act.put, List.getElem_toArray, List.getElem_cons_succ, List.getElem_cons_zero, List.setIfInBounds_toArray, List.set_cons_zero, List.set_cons_succ]
        refine Held.take (k := 10) (i := 10) (v := ?vjf10) nosjf okkjf_10 sizjf (by kernel_rfl) rfl (fun _ _ _ h => h) (Or.inl ⟨by kernel_rfl, ?hyjf10⟩) (by assumption) ?restjf10
        case hyjf10 => (intro w hSw; (try dsimp only at hSw); go_simp; (try (first | with_reducible rfl | rw [if_neg (by omega)])))
        try simp only [Act.put, List.getElem_toArray, List.getElem_cons_succ, List.getElem_cons_zero, List.setIfInBounds_toArray, List.set_cons_zero, List.set_cons_succ]
        refine Held.take (k := 11) (i := 11) (v := ?vjf11) nosjf okkjf_11 sizjf (by kernel_rfl) rfl (fun _ _ _ h => h) (Or.inl ⟨by kernel_rfl, ?hyjf11⟩) (by assumption) ?restjf11
        case hyjf11 => (intro w hSw; (try dsimp only at hSw); go_simp; (try (first | with_reducible rfl | rw [if_neg (by omega)])))
        try simp only [Act.put, List.getElem_toArray, List.getElem_cons_succ, List.getElem_cons_zero, List.setIfInBounds_toArray, List.set_cons_zero, List.set_cons_succ]
        refine Held.take (k := 12) (i := 12) (v := ?vjf12) nosjf okkjf_12 sizjf (by kernel_rfl) rfl (fun _ _ _ h => h) (Or.inl ⟨by kernel_rfl, ?hyjf12⟩) (by assumption) ?restjf12
        case hyjf12 => (intro w hSw; (try dsimp only at hSw); go_simp; (try (first | with_reducible rfl | rw [if_neg (by omega)])))
        try simp only [Act.put, List.getElem_toArray, List.getElem_cons_succ, List.getElem_cons_zero, List.setIfInBounds_toArray, List.set_cons_zero, List.set_cons_succ]
        refine Held.take (k := 13) (i := 13) (v := ?vjf13) nosjf okkjf_13 sizjf (by kernel_rfl) rfl (fun _ _ _ h => h) (Or.inl ⟨by kernel_rfl, ?hyjf13⟩) (by assumption) ?restjf13
        case hyjf13 => (intro w hSw; (try dsimp only at hSw); go_simp; (try (first | with_reducible rfl | rw [if_neg (by omega)])))
        try simp only [Act.put, List.getElem_toArray, List.getElem_cons_succ, List.getElem_cons_zero, List.setIfInBounds_toArray, List.set_cons_zero, List.set_cons_succ]
        refine Held.take (k := 14) (i := 14) (v := ?vjf14) nosjf okkjf_14 sizjf (by kernel_rfl) rfl (fun _ _ _ h => h) (Or.inl ⟨by kernel_rfl, ?hyjf14⟩) (by assumption) ?restjf14
        case hyjf14 => (intro w hSw; (try dsimp only at hSw); go_simp; (try (first | with_reducible rfl | rw [if_neg (by omega)])))
        try simp only [Act.put, List.getElem_toArray, List.getElem_cons_succ, List.getElem_cons_zero, List.setIfInBounds_toArray, List.set_cons_zero, List.set_cons_succ]
        refine Held.take (k := 15) (i := 15) (v := ?vjf15) nosjf okkjf_15 sizjf (by kernel_rfl) rfl (fun _ _ _ h => h) (Or.inl ⟨by kernel_rfl, ?hyjf15⟩) (by assumption) ?restjf15
        case hyjf15 => (intro w hSw; (try dsimp only at hSw); go_simp; (try (first | with_reducible rfl | rw [if_neg (by omega)])))
        try simp only [Act.put, List.getElem_toArray, List.getElem_cons_succ, List.getElem_cons_zero, List.setIfInBounds_toArray, List.set_cons_zero, List.set_cons_succ]
        refine Held.take (k := 16) (i := 16) (v := ?vjf16) nosjf okkjf_16 sizjf (by kernel_rfl) rfl (fun _ _ _ h => h) (Or.inl ⟨by kernel_rfl, ?hyjf16⟩) (by assumption) ?restjf16
        case hyjf16 => (intro w hSw; (try dsimp only at hSw); go_simp; (try (first | with_reducible rfl | rw [if_neg (by omega)])))
        try simp only [Act.put, List.getElem_toArray, List.getElem_cons_succ, List.getElem_cons_zero, List.setIfInBounds_toArray, List.set_cons_zero, List.set_cons_succ]
        refine Held.take (k := 17) (i := 17) (v := ?vjf17) nosjf okkjf_17 sizjf (by kernel_rfl) rfl (fun _ _ _ h => h) (Or.inl ⟨by kernel_rfl, ?hyjf17⟩) (by assumption) ?restjf17
        case hyjf17 => (intro w hSw; (try dsimp only at hSw); go_simp; (try (first | with_reducible rfl | rw [if_neg (by omega)])))
        try simp only [Act.put, List.getElem_toArray, List.getElem_cons_succ, List.getElem_cons_zero, List.setIfInBounds_toArray, List.set_cons_zero, List.set_cons_succ]
        refine Held.take (k := 18) (i := 18) (v := ?vjf18) nosjf okkjf_18 sizjf (by kernel_rfl) rfl (fun _ _ _ h => h) (Or.inl ⟨by kernel_rfl, ?hyjf18⟩) (by assumption) ?restjf18
        case hyjf18 => (intro w hSw; (try dsimp only at hSw); go_simp; (try (first | with_reducible rfl | rw [if_neg (by omega)])))
        try simp only [Act.put, List.getElem_toArray, List.getElem_cons_succ, List.getElem_cons_zero, List.setIfInBounds_toArray, List.set_cons_zero, List.set_cons_succ]
        refine Held.take (k := 19) (i := 19) (v := ?vjf19) nosjf okkjf_19 sizjf (by kernel_rfl) rfl (fun _ _ _ h => h) (Or.inl ⟨by kernel_rfl, ?hyjf19⟩) (by assumption) ?restjf19
        case hyjf19 => (intro w hSw; (try dsimp only at hSw); go_simp; (try (first | with_reducible rfl | rw [if_neg (by omega)])))
        try simp only [Act.put, List.getElem_toArray, List.getElem_cons_succ, List.getElem_cons_zero, List.setIfInBounds_toArray, List.set_cons_zero, List.set_cons_succ]
        refine Held.take (k := 20) (i := 20) (v := ?vjf20) nosjf okkjf_20 sizjf (by kernel_rfl) rfl (fun _ _ _ h => h) (Or.inl ⟨by kernel_rfl, ?hyjf20⟩) (by assumption) ?restjf20
        case hyjf20 => (intro w hSw; (try dsimp only at hSw); go_simp; (try (first | with_reducible rfl | rw [if_neg (by omega)])))
        try simp only [Act.put, List.getElem_toArray, List.getElem_cons_succ, List.getElem_cons_zero, List.setIfInBounds_toArray, List.set_cons_zero, List.set_cons_succ]
        refine Held.take (k := 21) (i := 21) (v := ?vjf21) nosjf okkjf_21 sizjf (by kernel_rfl) rfl (fun _ _ _ h => h) (Or.inl ⟨by kernel_rfl, ?hyjf21⟩) (by assumption) ?restjf21
        case hyjf21 => (intro w hSw; (try dsimp only at hSw); go_simp; (try (first | with_reducible rfl | rw [if_neg (by omega)])))
        try simp only [Act.put, List.getElem_toArray, List.getElem_cons_succ, List.getElem_cons_zero, List.setIfInBounds_toArray, List.set_cons_zero, List.set_cons_succ]
        refine Held.take (k := 22) (i := 22) (v := ?vjf22) nosjf okkjf_22 sizjf (by kernel_rfl) rfl (fun _ _ _ h => h) (Or.inl ⟨by kernel_rfl, ?hyjf22⟩) (by assumption) ?restjf22
        case hyjf22 => (intro w hSw; (try dsimp only at hSw); go_simp; (try (first | with_reducible rfl | rw [if_neg (by omega)])))
        try simp only [Act.put, List.getElem_toArray, List.getElem_cons_succ, List.getElem_cons_zero, List.setIfInBounds_toArray, List.set_cons_zero, List.set_cons_succ]
        refine Held.take (k := 23) (i := 23) (v := ?vjf23) nosjf okkjf_23 sizjf (by kernel_rfl) rfl (fun _ _ _ h => h) (Or.inl ⟨by kernel_rfl, ?hyjf23⟩) (by assumption) ?restjf23
        case hyjf23 => (intro w hSw; (try dsimp only at hSw); go_simp; (try (first | with_reducible rfl | rw [if_neg (by omega)])))
        try simp only [Act.put, List.getElem_toArray, List.getElem_cons_succ, List.getElem_cons_zero, List.setIfInBounds_toArray, List.set_cons_zero, List.set_cons_succ]
        refine Held.take (k := 24) (i := 24) (v := ?vjf24) nosjf okkjf_24 sizjf (by kernel_rfl) rfl (fun _ _ _ h => h) (Or.inl ⟨by kernel_rfl, ?hyjf24⟩) (by assumption) ?restjf24
        case hyjf24 => (intro w hSw; (try dsimp only at hSw); go_simp; (try (first | with_reducible rfl | rw [if_neg (by omega)])))
        try simp only [Act.put, List.getElem_toArray, List.getElem_cons_succ, List.getElem_cons_zero, List.setIfInBounds_toArray, List.set_cons_zero, List.set_cons_succ]
        refine Held.take (k := 25) (i := 25) (v := ?vjf25) nosjf okkjf_25 sizjf (by kernel_rfl) rfl (fun _ _ _ h => h) (Or.inl ⟨by kernel_rfl, ?hyjf25⟩) (by assumption) ?restjf25
        case hyjf25 => (intro w hSw; (try dsimp only at hSw); go_simp; (try (first | with_reducible rfl | rw [if_neg (by omega)])))
        try simp only [Act.put, List.getElem_toArray, List.getElem_cons_succ, List.getElem_cons_zero, List.setIfInBounds_toArray, List.set_cons_zero, List.set_cons_succ]
        refine Held.take (k := 26) (i := 27) (v := ?vjf26) nosjf okkjf_26 sizjf (by kernel_rfl) rfl (fun _ _ _ h => h) (Or.inl ⟨by kernel_rfl, ?hyjf26⟩) (by assumption) ?restjf26
        case hyjf26 => (intro w hSw; (try dsimp only at hSw); go_simp; (try (first | with_reducible rfl | rw [if_neg (by omega)])))
        try simp only [Act.put, List.getElem_toArray, List.getElem_cons_succ, List.getElem_cons_zero, List.setIfInBounds_toArray, List.set_cons_zero, List.set_cons_succ]
        refine Held.only (k := 27) (i := 26) rdyjf_27 (by kernel_rfl) rfl (by kernel_rfl) (fun K hK => ?_)
        go_simp
        go_at_call 37
        with_reducible refine (ofK_calls p_ q_ r_ s_ t_ v_ x_ _).mono ?_
        rintro e w5 ⟨rfl, hbx⟩
        replace u0 := cell_below hbx u0
        replace u1 := cell_below hbx u1
        replace u2 := cell_below hbx u2
        replace u3 := cell_below hbx u3
        replace u4 := cell_below hbx u4
        replace u5 := cell_below hbx u5
        replace u6 := cell_below hbx u6
        replace p0 := cell_below hbx p0
        replace p1 := cell_below hbx p1
        replace p2 := cell_below hbx p2
        replace p3 := cell_below hbx p3
        replace p4 := cell_below hbx p4
        replace p5 := cell_below hbx p5
        replace p6 := cell_below hbx p6
        replace hbX := hcall hbX hbx
        replace CM := CM.below hbx
        replace D := below_call D hbx
        refine hK.out _ _ (by (try dsimp only); (exact ⟨u0, u1, u2, u3, u4, u5, u6, p0, p1, p2, p3, p4, p5, p6⟩)) (fun hHeld => ?_)
        clear hK K
        try simp only [Act.put, List.getElem_toArray, List.getElem_cons_succ, List.getElem_cons_zero, List.setIfInBounds_toArray, List.set_cons_zero, List.set_cons_succ]
        refine Held.only (k := 28) (i := 28) rdyjf_28 (by kernel_rfl) rfl (by kernel_rfl) (fun K hK => ?_)
        go_simp
        go_at_call 37
        with_reducible refine (ofK_calls a_ b_ c_ d_ e_ f_ g_ _).mono ?_
        rintro e w6 ⟨rfl, hbx⟩
        replace u0 := cell_below hbx u0
        replace u1 := cell_below hbx u1
        replace u2 := cell_below hbx u2
        replace u3 := cell_below hbx u3
        replace u4 := cell_below hbx u4
        replace u5 := cell_below hbx u5
        replace u6 := cell_below hbx u6
        replace p0 := cell_below hbx p0
        replace p1 := cell_below hbx p1
        replace p2 := cell_below hbx p2
        replace p3 := cell_below hbx p3
        replace p4 := cell_below hbx p4
        replace p5 := cell_below hbx p5
        replace p6 := cell_below hbx p6
        replace hbX := hcall hbX hbx
        replace CM := CM.below hbx
        replace D := below_call D hbx
        refine hK.out _ _ (by (try dsimp only); (exact ⟨u0, u1, u2, u3, u4, u5, u6, p0, p1, p2, p3, p4, p5, p6⟩)) (fun hHeld => ?_)
        clear hK K
        try simp only [Act.put, List.getElem_toArray, List.getElem_cons_succ, List.getElem_cons_zero, List.setIfInBounds_toArray, List.set_cons_zero, List.set_cons_succ]
        refine Held.only (k := 29) (i := 29) rdyjf_29 (by kernel_rfl) rfl (by kernel_rfl) (fun K hK => ?_)
        go_simp
        go_at_call 36
        with_reducible refine (re_ (orderR_calls p_ q_ a_ b_ _) (by rw [HCM.out])).mono ?_
        rintro e w7 ⟨rfl, hbx⟩
        replace u0 := cell_below hbx u0
        replace u1 := cell_below hbx u1
        replace u2 := cell_below hbx u2
        replace u3 := cell_below hbx u3
        replace u4 := cell_below hbx u4
        replace u5 := cell_below hbx u5
        replace u6 := cell_below hbx u6
        replace p0 := cell_below hbx p0
        replace p1 := cell_below hbx p1
        replace p2 := cell_below hbx p2
        replace p3 := cell_below hbx p3
        replace p4 := cell_below hbx p4
        replace p5 := cell_below hbx p5
        replace p6 := cell_below hbx p6
        replace hbX := hcall hbX hbx
        replace CM := CM.below hbx
        replace D := below_call D hbx
        refine hK.out _ _ (by (try dsimp only); (exact ⟨u0, u1, u2, u3, u4, u5, u6, p0, p1, p2, p3, p4, p5, p6⟩)) (fun hHeld => ?_)
        clear hK K
        try simp only [Act.put, List.getElem_toArray, List.getElem_cons_succ, List.getElem_cons_zero, List.setIfInBounds_toArray, List.set_cons_zero, List.set_cons_succ]
        refine Held.take (k := 30) (i := 30) (v := ?vjf30) nosjf okkjf_30 sizjf (by kernel_rfl) rfl (fun _ _ _ h => h) (Or.inl ⟨by kernel_rfl, ?hyjf30⟩) (by assumption) ?restjf30
        case hyjf30 => (intro w hSw; (try dsimp only at hSw); go_simp; (try (first | with_reducible rfl | rw [if_neg (by omega)])))
        try simp only [Act.put, List.getElem_toArray, List.getElem_cons_succ, List.getElem_cons_zero, List.setIfInBounds_toArray, List.set_cons_zero, List.set_cons_succ]
        refine Held.take (k := 31) (i := 31) (v := ?vjf31) nosjf okkjf_31 sizjf (by kernel_rfl) rfl (fun _ _ _ h => h) (Or.inl ⟨by kernel_rfl, ?hyjf31⟩) (by assumption) ?restjf31
        case hyjf31 => (intro w hSw; (try dsimp only at hSw); go_simp; (try (first | with_reducible rfl | rw [if_neg (by omega)])))
        try simp only [Act.put, List.getElem_toArray, List.getElem_cons_succ, List.getElem_cons_zero, List.setIfInBounds_toArray, List.set_cons_zero, List.set_cons_succ]
        refine Held.take (k := 32) (i := 32) (v := ?vjf32) nosjf okkjf_32 sizjf (by kernel_rfl) rfl (fun _ _ _ h => h) (Or.inl ⟨by kernel_rfl, ?hyjf32⟩) (by assumption) ?restjf32
        case hyjf32 => (intro w hSw; (try dsimp only at hSw); go_simp; (try (first | with_reducible rfl | rw [if_neg (by omega)])))
        try simp only [Act.put, List.getElem_toArray, List.getElem_cons_succ, List.getElem_cons_zero, List.setIfInBounds_toArray, List.set_cons_zero, List.set_cons_succ]
        refine wpAnyH_done (by kernel_rfl) ?_ _
        clear u0 u1 u2 u3 u4 u5 u6 p0 p1 p2 p3 p4 p5 p6
        obtain ⟨u0, u1, u2, u3, u4, u5, u6, uz⟩ := cellsEn a_ b_ c_ d_ e_ f_ g_ hbX
        have HFD' := fun (W : World) (h : Row enEn 7 W (.slice (some ad) n c) l) => findRo_calls n c (some ad) l b_ a_ W h
        cases hp : placeRo l b_ a_ with
        | none =>
          have HNH := (getRo_no l b_ a_ (place_none hp)).2
          have HF : Hid (r = false) := by
            show _ = _
            rw [← HR.out]
            exact mayRo_no_cond i hil (by rw [HCD.out, HNH]; simp)
          rw [hp] at HFD'
          have HFD := Lib.hid (show ∀ (W : World), Row enEn 7 W (.slice (some ad) n c) l → Calls Try.prog 38 #[.slice (some ad) n c, agKr b_ a_] W fun e w' => e = .returned (.tuple #[.int .i64 0, .bool false]) ∧ Below W.heap.size W w' from HFD')
          clear HFD' hp HNH
          go_wp2_with fail
          with_reducible refine (HFD.out _ (hl.below D)).mono ?_
          rintro e w8 ⟨rfl, b8⟩
          replace hbX := hcall hbX b8
          replace CM := CM.below b8
          replace D := below_call D b8
          clear b8 u0 u1 u2 u3 u4 u5 u6 uz
          clear HFD
          obtain ⟨u0, u1, u2, u3, u4, u5, u6, uz⟩ := cellsEn a_ b_ c_ d_ e_ f_ g_ hbX
          clear uz
          replace hbX : w8.drew.heap[_]? = _ := hbX
          replace CM : CntMap w8.drew _ _ _ := CM
          replace D : Below _ _ w8.drew := D.drew
          go_wp2_with fail
          refine Held.start (ops := opsj0q) (S := fun w' => w'.cell? ⟨wr.heap.size, 0, none⟩ = some (.string a_) ∧ w'.cell? ⟨wr.heap.size, 1, none⟩ = some (.string b_) ∧ w'.cell? ⟨wr.heap.size, 2, none⟩ = some (.bool c_) ∧ w'.cell? ⟨wr.heap.size, 3, none⟩ = some (.bool d_) ∧ w'.cell? ⟨wr.heap.size, 4, none⟩ = some (.bool e_) ∧ w'.cell? ⟨wr.heap.size, 5, none⟩ = some (.bool f_) ∧ w'.cell? ⟨wr.heap.size, 6, none⟩ = some (.bool g_)) ordj0q 26 (by kernel_rfl) sizj0q (by kernel_rfl) ⟨u0, u1, u2, u3, u4, u5, u6⟩ (fun hHeld => ?_)
          refine Held.take (k := 0) (i := 0) (v := ?vj0q0) nosj0q okkj0q_0 sizj0q (by kernel_rfl) rfl (fun _ _ _ h => h) (Or.inl ⟨by kernel_rfl, ?hyj0q0⟩) (by assumption) ?restj0q0
          case hyj0q0 => (intro w hSw; (try dsimp only at hSw); go_simp; (try (first | with_reducible rfl | rw [if_neg (by omega)])))
          try simp only [Act.put, List.getElem_toArray, List.getElem_cons_succ, List.getElem_cons_zero, List.setIfInBounds_toArray, List.set_cons_zero, List.set_cons_succ]
          refine Held.take (k := 1) (i := 1) (v := ?vj0q1) nosj0q okkj0q_1 sizj0q (by kernel_rfl) rfl (fun _ _ _ h => h) (Or.inl ⟨by kernel_rfl, ?hyj0q1⟩) (by assumption) ?restj0q1
          case hyj0q1 => (intro w hSw; (try dsimp only at hSw); go_simp; (try (first | with_reducible rfl | rw [if_neg (by omega)])))
          try simp only [Act.put, List.getElem_toArray, List.getElem_cons_succ, List.getElem_cons_zero, List.setIfInBounds_toArray, List.set_cons_zero, List.set_cons_succ]
          refine Held.take (k := 2) (i := 2) (v := ?vj0q2) nosj0q okkj0q_2 sizj0q (by kernel_rfl) rfl (fun _ _ _ h => h) (Or.inl ⟨by kernel_rfl, ?hyj0q2⟩) (by assumption) ?restj0q2
          case hyj0q2 => (intro w hSw; (try dsimp only at hSw); go_simp; (try (first | with_reducible rfl | rw [if_neg (by omega)])))
          try simp only [Act.put, List.getElem_toArray, List.getElem_cons_succ, List.getElem_cons_zero, List.setIfInBounds_toArray, List.set_cons_zero, List.set_cons_succ]
          refine Held.take (k := 3) (i := 3) (v := undef) nosj0q okkj0q_3 sizj0q (by kernel_rfl) rfl (fun _ _ _ h => h) (Or.inr ⟨by kernel_rfl, rfl⟩) (by assumption) ?_
          try simp only [Act.put, List.getElem_toArray, List.getElem_cons_succ, List.getElem_cons_zero, List.setIfInBounds_toArray, List.set_cons_zero, List.set_cons_succ]
          refine Held.take (k := 4) (i := 4) (v := undef) nosj0q okkj0q_4 sizj0q (by kernel_rfl) rfl (fun _ _ _ h => h) (Or.inr ⟨by kernel_rfl, rfl⟩) (by assumption) ?_
          try simp only [Act.put, List.getElem_toArray, List.getElem_cons_succ, List.getElem_cons_zero, List.setIfInBounds_toArray, List.set_cons_zero, List.set_cons_succ]
          refine Held.take (k := 5) (i := 5) (v := undef) nosj0q okkj0q_5 sizj0q (by kernel_rfl) rfl (fun _ _ _ h => h) (Or.inr ⟨by kernel_rfl, rfl⟩) (by assumption) ?_
          try simp only [Act.put, List.getElem_toArray, List.getElem_cons_succ, List.getElem_cons_zero, List.setIfInBounds_toArray, List.set_cons_zero, List.set_cons_succ]
          refine Held.take (k := 6) (i := 6) (v := undef) nosj0q okkj0q_6 sizj0q (by kernel_rfl) rfl (fun _ _ _ h => h) (Or.inr ⟨by kernel_rfl, rfl⟩) (by assumption) ?_
          try simp only [Act.put, List.getElem_toArray, List.getElem_cons_succ, List.getElem_cons_zero, List.setIfInBounds_toArray, List.set_cons_zero, List.set_cons_succ]
          refine Held.take (k := 7) (i := 7) (v := undef) nosj0q okkj0q_7 sizj0q (by kernel_rfl) rfl (fun _ _ _ h => h) (Or.inr ⟨by kernel_rfl, rfl⟩) (by assumption) ?_
          try simp only [Act.put, List.getElem_toArray, List.getElem_cons_succ, List.getElem_cons_zero, List.setIfInBounds_toArray, List.set_cons_zero, List.set_cons_succ]
          refine Held.take (k := 8) (i := 8) (v := undef) nosj0q okkj0q_8 sizj0q (by kernel_rfl) rfl (fun _ _ _ h => h) (Or.inr ⟨by kernel_rfl, rfl⟩) (by assumption) ?_
          try simp only [Act.put, List.getElem_toArray, List.getElem_cons_succ, List.getElem_cons_zero, List.setIfInBounds_toArray, List.set_cons_zero, List.set_cons_succ]
          refine Held.take (k := 9) (i := 9) (v := undef) nosj0q okkj0q_9 sizj0q (by kernel_rfl) rfl (fun _ _ _ h => h) (Or.inr ⟨by kernel_rfl, rfl⟩) (by assumption) ?_
          try simp only [Act.put, List.getElem_toArray, List.getElem_cons_succ, List.getElem_cons_zero, List.setIfInBounds_toArray, List.set_cons_zero, List.set_cons_succ]
          refine Held.take (k := 10) (i := 10) (v := undef) nosj0q okkj0q_10 sizj0q (by kernel_rfl) rfl (fun _ _ _ h => h) (Or.inr ⟨by kernel_rfl, rfl⟩) (by assumption) ?_
          try simp only [Act.put, List.getElem_toArray, List.getElem_cons_succ, List.getElem_cons_zero, List.setIfInBounds_toArray, List.set_cons_zero, List.set_cons_succ]
          refine Held.take (k := 11) (i := 11) (v := undef) nosj0q okkj0q_11 sizj0q (by kernel_rfl) rfl (fun _ _ _ h => h) (Or.inr ⟨by kernel_rfl, rfl⟩) (by assumption) ?_
          try simp only [Act.put, List.getElem_toArray, List.getElem_cons_succ, List.getElem_cons_zero, List.setIfInBounds_toArray, List.set_cons_zero, List.set_cons_succ]
          refine Held.take (k := 12) (i := 12) (v := ?vj0q12) nosj0q okkj0q_12 sizj0q (by kernel_rfl) rfl (fun _ _ _ h => h) (Or.inl ⟨by kernel_rfl, ?hyj0q12⟩) (by assumption) ?restj0q12
          case hyj0q12 => (intro w hSw; (try dsimp only at hSw); go_simp; (try (first | with_reducible rfl | rw [if_neg (by omega)])))
          try simp only [Act.put, List.getElem_toArray, List.getElem_cons_succ, List.getElem_cons_zero, List.setIfInBounds_toArray, List.set_cons_zero, List.set_cons_succ]
          refine Held.take (k := 13) (i := 13) (v := ?vj0q13) nosj0q okkj0q_13 sizj0q (by kernel_rfl) rfl (fun _ _ _ h => h) (Or.inl ⟨by kernel_rfl, ?hyj0q13⟩) (by assumption) ?restj0q13
          case hyj0q13 => (intro w hSw; (try dsimp only at hSw); go_simp; (try (first | with_reducible rfl | rw [if_neg (by omega)])))
          try simp only [Act.put, List.getElem_toArray, List.getElem_cons_succ, List.getElem_cons_zero, List.setIfInBounds_toArray, List.set_cons_zero, List.set_cons_succ]
          refine Held.take (k := 14) (i := 14) (v := undef) nosj0q okkj0q_14 sizj0q (by kernel_rfl) rfl (fun _ _ _ h => h) (Or.inr ⟨by kernel_rfl, rfl⟩) (by assumption) ?_
          try simp only [Act.put, List.getElem_toArray, List.getElem_cons_succ, List.getElem_cons_zero, List.setIfInBounds_toArray, List.set_cons_zero, List.set_cons_succ]
          refine Held.take (k := 15) (i := 15) (v := undef) nosj0q okkj0q_15 sizj0q (by kernel_rfl) rfl (fun _ _ _ h => h) (Or.inr ⟨by kernel_rfl, rfl⟩) (by assumption) ?_
          try simp only [Act.put, List.getElem_toArray, List.getElem_cons_succ, List.getElem_cons_zero, List.setIfInBounds_toArray, List.set_cons_zero, List.set_cons_succ]
          refine Held.take (k := 16) (i := 16) (v := undef) nosj0q okkj0q_16 sizj0q (by kernel_rfl) rfl (fun _ _ _ h => h) (Or.inr ⟨by kernel_rfl, rfl⟩) (by assumption) ?_
          try simp only [Act.put, List.getElem_toArray, List.getElem_cons_succ, List.getElem_cons_zero, List.setIfInBounds_toArray, List.set_cons_zero, List.set_cons_succ]
          refine Held.take (k := 17) (i := 17) (v := undef) nosj0q okkj0q_17 sizj0q (by kernel_rfl) rfl (fun _ _ _ h => h) (Or.inr ⟨by kernel_rfl, rfl⟩) (by assumption) ?_
          try simp only [Act.put, List.getElem_toArray, List.getElem_cons_succ, List.getElem_cons_zero, List.setIfInBounds_toArray, List.set_cons_zero, List.set_cons_succ]
          refine Held.take (k := 18) (i := 18) (v := undef) nosj0q okkj0q_18 sizj0q (by kernel_rfl) rfl (fun _ _ _ h => h) (Or.inr ⟨by kernel_rfl, rfl⟩) (by assumption) ?_
          try simp only [Act.put, List.getElem_toArray, List.getElem_cons_succ, List.getElem_cons_zero, List.setIfInBounds_toArray, List.set_cons_zero, List.set_cons_succ]
          refine Held.take (k := 19) (i := 19) (v := undef) nosj0q okkj0q_19 sizj0q (by kernel_rfl) rfl (fun _ _ _ h => h) (Or.inr ⟨by kernel_rfl, rfl⟩) (by assumption) ?_
          try simp only [Act.put, List.getElem_toArray, List.getElem_cons_succ, List.getElem_cons_zero, List.setIfInBounds_toArray, List.set_cons_zero, List.set_cons_succ]
          refine Held.take (k := 20) (i := 20) (v := undef) nosj0q okkj0q_20 sizj0q (by kernel_rfl) rfl (fun _ _ _ h => h) (Or.inr ⟨by kernel_rfl, rfl⟩) (by assumption) ?_
          try simp only [Act.put, List.getElem_toArray, List.getElem_cons_succ, List.getElem_cons_zero, List.setIfInBounds_toArray, List.set_cons_zero, List.set_cons_succ]
          refine Held.take (k := 21) (i := 21) (v := undef) nosj0q okkj0q_21 sizj0q (by kernel_rfl) rfl (fun _ _ _ h => h) (Or.inr ⟨by kernel_rfl, rfl⟩) (by assumption) ?_
          try simp only [Act.put, List.getElem_toArray, List.getElem_cons_succ, List.getElem_cons_zero, List.setIfInBounds_toArray, List.set_cons_zero, List.set_cons_succ]
          refine Held.take (k := 22) (i := 22) (v := undef) nosj0q okkj0q_22 sizj0q (by kernel_rfl) rfl (fun _ _ _ h => h) (Or.inr ⟨by kernel_rfl, rfl⟩) (by assumption) ?_
          try simp only [Act.put, List.getElem_toArray, List.getElem_cons_succ, List.getElem_cons_zero, List.setIfInBounds_toArray, List.set_cons_zero, List.set_cons_succ]
          refine Held.take (k := 23) (i := 23) (v := undef) nosj0q okkj0q_23 sizj0q (by kernel_rfl) rfl (fun _ _ _ h => h) (Or.inr ⟨by kernel_rfl, rfl⟩) (by assumption) ?_
          try simp only [Act.put, List.getElem_toArray, List.getElem_cons_succ, List.getElem_cons_zero, List.setIfInBounds_toArray, List.set_cons_zero, List.set_cons_succ]
          refine Held.take (k := 24) (i := 24) (v := undef) nosj0q okkj0q_24 sizj0q (by kernel_rfl) rfl (fun _ _ _ h => h) (Or.inr ⟨by kernel_rfl, rfl⟩) (by assumption) ?_
          try simp only [Act.put, List.getElem_toArray, List.getElem_cons_succ, List.getElem_cons_zero, List.setIfInBounds_toArray, List.set_cons_zero, List.set_cons_succ]
          refine Held.take (k := 25) (i := 25) (v := ?vj0q25) nosj0q okkj0q_25 sizj0q (by kernel_rfl) rfl (fun _ _ _ h => h) (Or.inl ⟨by kernel_rfl, ?hyj0q25⟩) (by assumption) ?restj0q25
          case hyj0q25 => (intro w hSw; (try dsimp only at hSw); go_simp; (try (first | with_reducible rfl | rw [if_neg (by omega)])))
          try simp only [Act.put, List.getElem_toArray, List.getElem_cons_succ, List.getElem_cons_zero, List.setIfInBounds_toArray, List.set_cons_zero, List.set_cons_succ]
          refine wpAnyH_done (by kernel_rfl) ?_ _
          clear u0 u1 u2 u3 u4 u5 u6
          clear CM
          go_wp2
          go_ret
          rw [HF.out]
          exact ⟨rfl, D⟩
        | some k2 =>
          obtain ⟨hkl, hkk, hk4⟩ := place_some hp
          obtain ⟨⟨a', b', c', d', e', f', g'⟩, he'⟩ : ∃ e, l[k2] = e := ⟨_, rfl⟩
          obtain ⟨hg1, hg2⟩ := getRo_at l b_ a_ k2 hkl hk4 hkk
          rw [he'] at hg1
          simp only at hg1
          rw [hp] at HFD'
          have HFD := Lib.hid (show ∀ (W : World), Row enEn 7 W (.slice (some ad) n c) l → Calls Try.prog 38 #[.slice (some ad) n c, agKr b_ a_] W fun e w' => e = .returned (.tuple #[.int .i64 k2, .bool true]) ∧ Below W.heap.size W w' from fun W h => by
            have := HFD' W h
            rwa [show maxI (idxI (some k2)) = (k2 : Int) from by unfold maxI idxI; simp, show decide (0 ≤ idxI (some k2)) = true from by unfold idxI; simp] at this)
          have hcd := HCD.out
          rw [hg1, hg2, HNa_.out, HNb_.out, decide_eq_false HAB.out] at hcd
          simp only [Bool.true_and, Bool.not_false] at hcd
          have HCE := Lib.hid hcd
          have HE2 := Lib.hid he'
          have x5 : (0 : Int) ≤ (k2 : Int) := by omega
          have x6 : (k2 : Int) < (n : Int) := by have := EA.out; omega
          obtain ⟨ft, hft⟩ : ∃ b, fitI ⟨c_, d_, e_, f_, g_⟩ ⟨c', d', e', f', g'⟩ = b := ⟨_, rfl⟩
          obtain ⟨m1, hm1⟩ : ∃ b, emptyI ⟨c_, d_, e_, f_, g_⟩ = b := ⟨_, rfl⟩
          obtain ⟨m2, hm2⟩ : ∃ b, emptyI ⟨c', d', e', f', g'⟩ = b := ⟨_, rfl⟩
          have HFT := Lib.hid hft
          have HM1 := Lib.hid hm1
          have HM2 := Lib.hid hm2
          clear HFD' hp hkk hk4 he' hg1 hg2 hcd hft hm1 hm2
          go_wp2_with fail
          with_reducible refine (HFD.out _ (hl.below D)).mono ?_
          rintro e w8 ⟨rfl, b8⟩
          replace hbX := hcall hbX b8
          replace CM := CM.below b8
          replace D := below_call D b8
          clear b8 u0 u1 u2 u3 u4 u5 u6 uz
          clear HFD
          obtain ⟨u0, u1, u2, u3, u4, u5, u6, uz⟩ := cellsEn a_ b_ c_ d_ e_ f_ g_ hbX
          obtain ⟨k0, k1, k2_, k3, k4, k5, k6⟩ := rowsEn (hl.below D) k2 hkl a' b' c' d' e' f' g' HE2.out
          cases ft with
          | false =>
            have HF : Hid (r = false) := by
              show _ = _
              rw [← HR.out]
              exact mayRo_no_cond i hil (by rw [HCE.out, HFT.out]; rfl)
            clear uz
            replace hbX : w8.drew.heap[_]? = _ := hbX
            replace CM : CntMap w8.drew _ _ _ := CM
            replace D : Below _ _ w8.drew := D.drew
            go_wp2_with fail
            refine Held.start (ops := opsj1q) (S := fun w' => w'.cell? ⟨wr.heap.size, 0, none⟩ = some (.string a_) ∧ w'.cell? ⟨wr.heap.size, 1, none⟩ = some (.string b_) ∧ w'.cell? ⟨wr.heap.size, 2, none⟩ = some (.bool c_) ∧ w'.cell? ⟨wr.heap.size, 3, none⟩ = some (.bool d_) ∧ w'.cell? ⟨wr.heap.size, 4, none⟩ = some (.bool e_) ∧ w'.cell? ⟨wr.heap.size, 5, none⟩ = some (.bool f_) ∧ w'.cell? ⟨wr.heap.size, 6, none⟩ = some (.bool g_) ∧ w'.cell? (ad.add (k2 * 7)) = some (.string a') ∧ w'.cell? ⟨(ad.add (k2 * 7)).block, (ad.add (k2 * 7)).off + 1, none⟩ = some (.string b') ∧ w'.cell? ⟨(ad.add (k2 * 7)).block, (ad.add (k2 * 7)).off + 2, none⟩ = some (.bool c') ∧ w'.cell? ⟨(ad.add (k2 * 7)).block, (ad.add (k2 * 7)).off + 3, none⟩ = some (.bool d') ∧ w'.cell? ⟨(ad.add (k2 * 7)).block, (ad.add (k2 * 7)).off + 4, none⟩ = some (.bool e') ∧ w'.cell? ⟨(ad.add (k2 * 7)).block, (ad.add (k2 * 7)).off + 5, none⟩ = some (.bool f') ∧ w'.cell? ⟨(ad.add (k2 * 7)).block, (ad.add (k2 * 7)).off + 6, none⟩ = some (.bool g')) ordj1q 26 (by kernel_rfl) sizj1q (by kernel_rfl) ⟨u0, u1, u2, u3, u4, u5, u6, k0, k1, k2_, k3, k4, k5, k6⟩ (fun hHeld => ?_)
            refine Held.take (k := 0) (i := 0) (v := ?vj1q0) nosj1q okkj1q_0 sizj1q (by kernel_rfl) rfl (fun _ _ _ h => h) (Or.inl ⟨by kernel_rfl, ?hyj1q0⟩) (by assumption) ?restj1q0
            case hyj1q0 => (intro w hSw; (try dsimp only at hSw); go_simp; (try (first | with_reducible rfl | rw [if_neg (by omega)])))
            try simp only [Act.put, List.getElem_toArray, List.getElem_cons_succ, List.getElem_cons_zero, List.setIfInBounds_toArray, List.set_cons_zero, List.set_cons_succ]
            refine Held.take (k := 1) (i := 1) (v := ?vj1q1) nosj1q okkj1q_1 sizj1q (by kernel_rfl) rfl (fun _ _ _ h => h) (Or.inl ⟨by kernel_rfl, ?hyj1q1⟩) (by assumption) ?restj1q1
            case hyj1q1 => (intro w hSw; (try dsimp only at hSw); go_simp; (try (first | with_reducible rfl | rw [if_neg (by omega)])))
            try simp only [Act.put, List.getElem_toArray, List.getElem_cons_succ, List.getElem_cons_zero, List.setIfInBounds_toArray, List.set_cons_zero, List.set_cons_succ]
            refine Held.take (k := 2) (i := 2) (v := ?vj1q2) nosj1q okkj1q_2 sizj1q (by kernel_rfl) rfl (fun _ _ _ h => h) (Or.inl ⟨by kernel_rfl, ?hyj1q2⟩) (by assumption) ?restj1q2
            case hyj1q2 => (intro w hSw; (try dsimp only at hSw); go_simp; (try (first | with_reducible rfl | rw [if_neg (by omega)])))
            try simp only [Act.put, List.getElem_toArray, List.getElem_cons_succ, List.getElem_cons_zero, List.setIfInBounds_toArray, List.set_cons_zero, List.set_cons_succ]
            refine Held.take (k := 3) (i := 3) (v := ?vj1q3) nosj1q okkj1q_3 sizj1q (by kernel_rfl) rfl (fun _ _ _ h => h) (Or.inl ⟨by kernel_rfl, ?hyj1q3⟩) (by assumption) ?restj1q3
            case hyj1q3 => (intro w hSw; (try dsimp only at hSw); go_simp; (try (first | with_reducible rfl | rw [if_neg (by omega)])))
            try simp only [Act.put, List.getElem_toArray, List.getElem_cons_succ, List.getElem_cons_zero, List.setIfInBounds_toArray, List.set_cons_zero, List.set_cons_succ]
            refine Held.take (k := 4) (i := 4) (v := ?vj1q4) nosj1q okkj1q_4 sizj1q (by kernel_rfl) rfl (fun _ _ _ h => h) (Or.inl ⟨by kernel_rfl, ?hyj1q4⟩) (by assumption) ?restj1q4
            case hyj1q4 => (intro w hSw; (try dsimp only at hSw); go_simp; (try (first | with_reducible rfl | rw [if_neg (by omega)])))
            try simp only [Act.put, List.getElem_toArray, List.getElem_cons_succ, List.getElem_cons_zero, List.setIfInBounds_toArray, List.set_cons_zero, List.set_cons_succ]
            refine Held.take (k := 5) (i := 5) (v := ?vj1q5) nosj1q okkj1q_5 sizj1q (by kernel_rfl) rfl (fun _ _ _ h => h) (Or.inl ⟨by kernel_rfl, ?hyj1q5⟩) (by assumption) ?restj1q5
            case hyj1q5 => (intro w hSw; (try dsimp only at hSw); go_simp; (try (first | with_reducible rfl | rw [if_neg (by omega)])))
            try simp only [Act.put, List.getElem_toArray, List.getElem_cons_succ, List.getElem_cons_zero, List.setIfInBounds_toArray, List.set_cons_zero, List.set_cons_succ]
            refine Held.take (k := 6) (i := 6) (v := ?vj1q6) nosj1q okkj1q_6 sizj1q (by kernel_rfl) rfl (fun _ _ _ h => h) (Or.inl ⟨by kernel_rfl, ?hyj1q6⟩) (by assumption) ?restj1q6
            case hyj1q6 => (intro w hSw; (try dsimp only at hSw); go_simp; (try (first | with_reducible rfl | rw [if_neg (by omega)])))
            try simp only [Act.put, List.getElem_toArray, List.getElem_cons_succ, List.getElem_cons_zero, List.setIfInBounds_toArray, List.set_cons_zero, List.set_cons_succ]
            refine Held.take (k := 7) (i := 7) (v := ?vj1q7) nosj1q okkj1q_7 sizj1q (by kernel_rfl) rfl (fun _ _ _ h => h) (Or.inl ⟨by kernel_rfl, ?hyj1q7⟩) (by assumption) ?restj1q7
            case hyj1q7 => (intro w hSw; (try dsimp only at hSw); go_simp; (try (first | with_reducible rfl | rw [if_neg (by omega)])))
            try simp only [Act.put, List.getElem_toArray, List.getElem_cons_succ, List.getElem_cons_zero, List.setIfInBounds_toArray, List.set_cons_zero, List.set_cons_succ]
            refine Held.take (k := 8) (i := 8) (v := ?vj1q8) nosj1q okkj1q_8 sizj1q (by kernel_rfl) rfl (fun _ _ _ h => h) (Or.inl ⟨by kernel_rfl, ?hyj1q8⟩) (by assumption) ?restj1q8
            case hyj1q8 => (intro w hSw; (try dsimp only at hSw); go_simp; (try (first | with_reducible rfl | rw [if_neg (by omega)])))
            try simp only [Act.put, List.getElem_toArray, List.getElem_cons_succ, List.getElem_cons_zero, List.setIfInBounds_toArray, List.set_cons_zero, List.set_cons_succ]
            refine Held.take (k := 9) (i := 9) (v := ?vj1q9) nosj1q okkj1q_9 sizj1q (by kernel_rfl) rfl (fun _ _ _ h => h) (Or.inl ⟨by kernel_rfl, ?hyj1q9⟩) (by assumption) ?restj1q9
            case hyj1q9 => (intro w hSw; (try dsimp only at hSw); go_simp; (try (first | with_reducible rfl | rw [if_neg (by omega)])))
            try simp only [Act.put, List.getElem_toArray, List.getElem_cons_succ, List.getElem_cons_zero, List.setIfInBounds_toArray, List.set_cons_zero, List.set_cons_succ]
            refine Held.only (k := 10) (i := 10) rdyj1q_10 (by kernel_rfl) rfl (by kernel_rfl) (fun K hK => ?_)
            go_simp
            go_at_call 30
            with_reducible refine (re_ (MayI_calls c_ d_ e_ f_ g_ c' d' e' f' g' _) (ret_bool HFT.out)).mono ?_
            rintro e w9 ⟨rfl, hbx⟩
            replace u0 := cell_below hbx u0
            replace u1 := cell_below hbx u1
            replace u2 := cell_below hbx u2
            replace u3 := cell_below hbx u3
            replace u4 := cell_below hbx u4
            replace u5 := cell_below hbx u5
            replace u6 := cell_below hbx u6
            replace k0 := cell_below hbx k0
            replace k1 := cell_below hbx k1
            replace k2_ := cell_below hbx k2_
            replace k3 := cell_below hbx k3
            replace k4 := cell_below hbx k4
            replace k5 := cell_below hbx k5
            replace k6 := cell_below hbx k6
            replace hbX := hcall hbX hbx
            replace CM := CM.below hbx
            replace D := below_call D hbx
            refine hK.out _ _ (by (try dsimp only); (exact ⟨u0, u1, u2, u3, u4, u5, u6, k0, k1, k2_, k3, k4, k5, k6⟩)) (fun hHeld => ?_)
            clear hK K
            try simp only [Act.put, List.getElem_toArray, List.getElem_cons_succ, List.getElem_cons_zero, List.setIfInBounds_toArray, List.set_cons_zero, List.set_cons_succ]
            refine Held.take (k := 11) (i := 11) (v := ?vj1q11) nosj1q okkj1q_11 sizj1q (by kernel_rfl) rfl (fun _ _ _ h => h) (Or.inl ⟨by kernel_rfl, ?hyj1q11⟩) (by assumption) ?restj1q11
            case hyj1q11 => (intro w hSw; (try dsimp only at hSw); go_simp; (try (first | with_reducible rfl | rw [if_neg (by omega)])))
            try simp only [Act.put, List.getElem_toArray, List.getElem_cons_succ, List.getElem_cons_zero, List.setIfInBounds_toArray, List.set_cons_zero, List.set_cons_succ]
            refine Held.take (k := 12) (i := 12) (v := ?vj1q12) nosj1q okkj1q_12 sizj1q (by kernel_rfl) rfl (fun _ _ _ h => h) (Or.inl ⟨by kernel_rfl, ?hyj1q12⟩) (by assumption) ?restj1q12
            case hyj1q12 => (intro w hSw; (try dsimp only at hSw); go_simp; (try (first | with_reducible rfl | rw [if_neg (by omega)])))
            try simp only [Act.put, List.getElem_toArray, List.getElem_cons_succ, List.getElem_cons_zero, List.setIfInBounds_toArray, List.set_cons_zero, List.set_cons_succ]
            refine Held.take (k := 13) (i := 13) (v := ?vj1q13) nosj1q okkj1q_13 sizj1q (by kernel_rfl) rfl (fun _ _ _ h => h) (Or.inl ⟨by kernel_rfl, ?hyj1q13⟩) (by assumption) ?restj1q13
            case hyj1q13 => (intro w hSw; (try dsimp only at hSw); go_simp; (try (first | with_reducible rfl | rw [if_neg (by omega)])))
            try simp only [Act.put, List.getElem_toArray, List.getElem_cons_succ, List.getElem_cons_zero, List.setIfInBounds_toArray, List.set_cons_zero, List.set_cons_succ]
            refine Held.take (k := 14) (i := 14) (v := undef) nosj1q okkj1q_14 sizj1q (by kernel_rfl) rfl (fun _ _ _ h => h) (Or.inr ⟨by kernel_rfl, rfl⟩) (by assumption) ?_
            try simp only [Act.put, List.getElem_toArray, List.getElem_cons_succ, List.getElem_cons_zero, List.setIfInBounds_toArray, List.set_cons_zero, List.set_cons_succ]
            refine Held.take (k := 15) (i := 15) (v := undef) nosj1q okkj1q_15 sizj1q (by kernel_rfl) rfl (fun _ _ _ h => h) (Or.inr ⟨by kernel_rfl, rfl⟩) (by assumption) ?_
            try simp only [Act.put, List.getElem_toArray, List.getElem_cons_succ, List.getElem_cons_zero, List.setIfInBounds_toArray, List.set_cons_zero, List.set_cons_succ]
            refine Held.take (k := 16) (i := 16) (v := undef) nosj1q okkj1q_16 sizj1q (by kernel_rfl) rfl (fun _ _ _ h => h) (Or.inr ⟨by kernel_rfl, rfl⟩) (by assumption) ?_
            try simp only [Act.put, List.getElem_toArray, List.getElem_cons_succ, List.getElem_cons_zero, List.setIfInBounds_toArray, List.set_cons_zero, List.set_cons_succ]
            refine Held.take (k := 17) (i := 17) (v := undef) nosj1q okkj1q_17 sizj1q (by kernel_rfl) rfl (fun _ _ _ h => h) (Or.inr ⟨by kernel_rfl, rfl⟩) (by assumption) ?_
            try simp only [Act.put, List.getElem_toArray, List.getElem_cons_succ, List.getElem_cons_zero, List.setIfInBounds_toArray, List.set_cons_zero, List.set_cons_succ]
            refine Held.take (k := 18) (i := 18) (v := undef) nosj1q okkj1q_18 sizj1q (by kernel_rfl) rfl (fun _ _ _ h => h) (Or.inr ⟨by kernel_rfl, rfl⟩) (by assumption) ?_
            try simp only [Act.put, List.getElem_toArray, List.getElem_cons_succ, List.getElem_cons_zero, List.setIfInBounds_toArray, List.set_cons_zero, List.set_cons_succ]
            refine Held.take (k := 19) (i := 19) (v := undef) nosj1q okkj1q_19 sizj1q (by kernel_rfl) rfl (fun _ _ _ h => h) (Or.inr ⟨by kernel_rfl, rfl⟩) (by assumption) ?_
            try simp only [Act.put, List.getElem_toArray, List.getElem_cons_succ, List.getElem_cons_zero, List.setIfInBounds_toArray, List.set_cons_zero, List.set_cons_succ]
            refine Held.take (k := 20) (i := 20) (v := undef) nosj1q okkj1q_20 sizj1q (by kernel_rfl) rfl (fun _ _ _ h => h) (Or.inr ⟨by kernel_rfl, rfl⟩) (by assumption) ?_
            try simp only [Act.put, List.getElem_toArray, List.getElem_cons_succ, List.getElem_cons_zero, List.setIfInBounds_toArray, List.set_cons_zero, List.set_cons_succ]
            refine Held.take (k := 21) (i := 21) (v := undef) nosj1q okkj1q_21 sizj1q (by kernel_rfl) rfl (fun _ _ _ h => h) (Or.inr ⟨by kernel_rfl, rfl⟩) (by assumption) ?_
            try simp only [Act.put, List.getElem_toArray, List.getElem_cons_succ, List.getElem_cons_zero, List.setIfInBounds_toArray, List.set_cons_zero, List.set_cons_succ]
            refine Held.take (k := 22) (i := 22) (v := undef) nosj1q okkj1q_22 sizj1q (by kernel_rfl) rfl (fun _ _ _ h => h) (Or.inr ⟨by kernel_rfl, rfl⟩) (by assumption) ?_
            try simp only [Act.put, List.getElem_toArray, List.getElem_cons_succ, List.getElem_cons_zero, List.setIfInBounds_toArray, List.set_cons_zero, List.set_cons_succ]
            refine Held.take (k := 23) (i := 23) (v := undef) nosj1q okkj1q_23 sizj1q (by kernel_rfl) rfl (fun _ _ _ h => h) (Or.inr ⟨by kernel_rfl, rfl⟩) (by assumption) ?_
            try simp only [Act.put, List.getElem_toArray, List.getElem_cons_succ, List.getElem_cons_zero, List.setIfInBounds_toArray, List.set_cons_zero, List.set_cons_succ]
            refine Held.take (k := 24) (i := 24) (v := undef) nosj1q okkj1q_24 sizj1q (by kernel_rfl) rfl (fun _ _ _ h => h) (Or.inr ⟨by kernel_rfl, rfl⟩) (by assumption) ?_
            try simp only [Act.put, List.getElem_toArray, List.getElem_cons_succ, List.getElem_cons_zero, List.setIfInBounds_toArray, List.set_cons_zero, List.set_cons_succ]
            refine Held.take (k := 25) (i := 25) (v := ?vj1q25) nosj1q okkj1q_25 sizj1q (by kernel_rfl) rfl (fun _ _ _ h => h) (Or.inl ⟨by kernel_rfl, ?hyj1q25⟩) (by assumption) ?restj1q25
            case hyj1q25 => (intro w hSw; (try dsimp only at hSw); go_simp; (try (first | with_reducible rfl | rw [if_neg (by omega)])))
            try simp only [Act.put, List.getElem_toArray, List.getElem_cons_succ, List.getElem_cons_zero, List.setIfInBounds_toArray, List.set_cons_zero, List.set_cons_succ]
            refine wpAnyH_done (by kernel_rfl) ?_ _
            clear u0 u1 u2 u3 u4 u5 u6 k0 k1 k2_ k3 k4 k5 k6
            clear CM
            go_wp2
            go_ret
            rw [HF.out]
            exact ⟨rfl, D⟩
          | true =>
            cases m1 with
            | false =>
              clear uz
              replace hbX : w8.drew.heap[_]? = _ := hbX
              replace CM : CntMap w8.drew _ _ _ := CM
              replace D : Below _ _ w8.drew := D.drew
              go_wp2_with fail
              refine Held.start (ops := opsj2q) (S := fun w' => w'.cell? ⟨wr.heap.size, 0, none⟩ = some (.string a_) ∧ w'.cell? ⟨wr.heap.size, 1, none⟩ = some (.string b_) ∧ w'.cell? ⟨wr.heap.size, 2, none⟩ = some (.bool c_) ∧ w'.cell? ⟨wr.heap.size, 3, none⟩ = some (.bool d_) ∧ w'.cell? ⟨wr.heap.size, 4, none⟩ = some (.bool e_) ∧ w'.cell? ⟨wr.heap.size, 5, none⟩ = some (.bool f_) ∧ w'.cell? ⟨wr.heap.size, 6, none⟩ = some (.bool g_) ∧ w'.cell? (ad.add (k2 * 7)) = some (.string a') ∧ w'.cell? ⟨(ad.add (k2 * 7)).block, (ad.add (k2 * 7)).off + 1, none⟩ = some (.string b') ∧ w'.cell? ⟨(ad.add (k2 * 7)).block, (ad.add (k2 * 7)).off + 2, none⟩ = some (.bool c') ∧ w'.cell? ⟨(ad.add (k2 * 7)).block, (ad.add (k2 * 7)).off + 3, none⟩ = some (.bool d') ∧ w'.cell? ⟨(ad.add (k2 * 7)).block, (ad.add (k2 * 7)).off + 4, none⟩ = some (.bool e') ∧ w'.cell? ⟨(ad.add (k2 * 7)).block, (ad.add (k2 * 7)).off + 5, none⟩ = some (.bool f') ∧ w'.cell? ⟨(ad.add (k2 * 7)).block, (ad.add (k2 * 7)).off + 6, none⟩ = some (.bool g')) ordj2q 26 (by kernel_rfl) sizj2q (by kernel_rfl) ⟨u0, u1, u2, u3, u4, u5, u6, k0, k1, k2_, k3, k4, k5, k6⟩ (fun hHeld => ?_)
              refine Held.take (k := 0) (i := 0) (v := ?vj2q0) nosj2q okkj2q_0 sizj2q (by kernel_rfl) rfl (fun _ _ _ h => h) (Or.inl ⟨by kernel_rfl, ?hyj2q0⟩) (by assumption) ?restj2q0
              case hyj2q0 => (intro w hSw; (try dsimp only at hSw); go_simp; (try (first | with_reducible rfl | rw [if_neg (by omega)])))
              try simp only [Act.put, List.getElem_toArray, List.getElem_cons_succ, List.getElem_cons_zero, List.setIfInBounds_toArray, List.set_cons_zero, List.set_cons_succ]
              refine Held.take (k := 1) (i := 1) (v := ?vj2q1) nosj2q okkj2q_1 sizj2q (by kernel_rfl) rfl (fun _ _ _ h => h) (Or.inl ⟨by kernel_rfl, ?hyj2q1⟩) (by assumption) ?restj2q1
              case hyj2q1 => (intro w hSw; (try dsimp only at hSw); go_simp; (try (first | with_reducible rfl | rw [if_neg (by omega)])))
              try simp only [Act.put, List.getElem_toArray, List.getElem_cons_succ, List.getElem_cons_zero, List.setIfInBounds_toArray, List.set_cons_zero, List.set_cons_succ]
              refine Held.take (k := 2) (i := 2) (v := ?vj2q2) nosj2q okkj2q_2 sizj2q (by kernel_rfl) rfl (fun _ _ _ h => h) (Or.inl ⟨by kernel_rfl, ?hyj2q2⟩) (by assumption) ?restj2q2
              case hyj2q2 => (intro w hSw; (try dsimp only at hSw); go_simp; (try (first | with_reducible rfl | rw [if_neg (by omega)])))
              try simp only [Act.put, List.getElem_toArray, List.getElem_cons_succ, List.getElem_cons_zero, List.setIfInBounds_toArray, List.set_cons_zero, List.set_cons_succ]
              refine Held.take (k := 3) (i := 3) (v := ?vj2q3) nosj2q okkj2q_3 sizj2q (by kernel_rfl) rfl (fun _ _ _ h => h) (Or.inl ⟨by kernel_rfl, ?hyj2q3⟩) (by assumption) ?restj2q3
              case hyj2q3 => (intro w hSw; (try dsimp only at hSw); go_simp; (try (first | with_reducible rfl | rw [if_neg (by omega)])))
              try simp only [Act.put, List.getElem_toArray, List.getElem_cons_succ, List.getElem_cons_zero, List.setIfInBounds_toArray, List.set_cons_zero, List.set_cons_succ]
              refine Held.take (k := 4) (i := 4) (v := ?vj2q4) nosj2q okkj2q_4 sizj2q (by kernel_rfl) rfl (fun _ _ _ h => h) (Or.inl ⟨by kernel_rfl, ?hyj2q4⟩) (by assumption) ?restj2q4
              case hyj2q4 => (intro w hSw; (try dsimp only at hSw); go_simp; (try (first | with_reducible rfl | rw [if_neg (by omega)])))
              try simp only [Act.put, List.getElem_toArray, List.getElem_cons_succ, List.getElem_cons_zero, List.setIfInBounds_toArray, List.set_cons_zero, List.set_cons_succ]
              refine Held.take (k := 5) (i := 5) (v := ?vj2q5) nosj2q okkj2q_5 sizj2q (by kernel_rfl) rfl (fun _ _ _ h => h) (Or.inl ⟨by kernel_rfl, ?hyj2q5⟩) (by assumption) ?restj2q5
              case hyj2q5 => (intro w hSw; (try dsimp only at hSw); go_simp; (try (first | with_reducible rfl | rw [if_neg (by omega)])))
              try simp only [Act.put, List.getElem_toArray, List.getElem_cons_succ, List.getElem_cons_zero, List.setIfInBounds_toArray, List.set_cons_zero, List.set_cons_succ]
              refine Held.take (k := 6) (i := 6) (v := ?vj2q6) nosj2q okkj2q_6 sizj2q (by kernel_rfl) rfl (fun _ _ _ h => h) (Or.inl ⟨by kernel_rfl, ?hyj2q6⟩) (by assumption) ?restj2q6
              case hyj2q6 => (intro w hSw; (try dsimp only at hSw); go_simp; (try (first | with_reducible rfl | rw [if_neg (by omega)])))
              try simp only [Act.put, List.getElem_toArray, List.getElem_cons_succ, List.getElem_cons_zero, List.setIfInBounds_toArray, List.set_cons_zero, List.set_cons_succ]
              refine Held.take (k := 7) (i := 7) (v := ?vj2q7) nosj2q okkj2q_7 sizj2q (by kernel_rfl) rfl (fun _ _ _ h => h) (Or.inl ⟨by kernel_rfl, ?hyj2q7⟩) (by assumption) ?restj2q7
              case hyj2q7 => (intro w hSw; (try dsimp only at hSw); go_simp; (try (first | with_reducible rfl | rw [if_neg (by omega)])))
              try simp only [Act.put, List.getElem_toArray, List.getElem_cons_succ, List.getElem_cons_zero, List.setIfInBounds_toArray, List.set_cons_zero, List.set_cons_succ]
              refine Held.take (k := 8) (i := 8) (v := ?vj2q8) nosj2q okkj2q_8 sizj2q (by kernel_rfl) rfl (fun _ _ _ h => h) (Or.inl ⟨by kernel_rfl, ?hyj2q8⟩) (by assumption) ?restj2q8
              case hyj2q8 => (intro w hSw; (try dsimp only at hSw); go_simp; (try (first | with_reducible rfl | rw [if_neg (by omega)])))
              try simp only [Act.put, List.getElem_toArray, List.getElem_cons_succ, List.getElem_cons_zero, List.setIfInBounds_toArray, List.set_cons_zero, List.set_cons_succ]
              refine Held.take (k := 9) (i := 9) (v := ?vj2q9) nosj2q okkj2q_9 sizj2q (by kernel_rfl) rfl (fun _ _ _ h => h) (Or.inl ⟨by kernel_rfl, ?hyj2q9⟩) (by assumption) ?restj2q9
              case hyj2q9 => (intro w hSw; (try dsimp only at hSw); go_simp; (try (first | with_reducible rfl | rw [if_neg (by omega)])))
              try simp only [Act.put, List.getElem_toArray, List.getElem_cons_succ, List.getElem_cons_zero, List.setIfInBounds_toArray, List.set_cons_zero, List.set_cons_succ]
              refine Held.only (k := 10) (i := 10) rdyj2q_10 (by kernel_rfl) rfl (by kernel_rfl) (fun K hK => ?_)
              go_simp
              go_at_call 30
              with_reducible refine (re_ (MayI_calls c_ d_ e_ f_ g_ c' d' e' f' g' _) (ret_bool HFT.out)).mono ?_
              rintro e w9 ⟨rfl, hbx⟩
              replace u0 := cell_below hbx u0
              replace u1 := cell_below hbx u1
              replace u2 := cell_below hbx u2
              replace u3 := cell_below hbx u3
              replace u4 := cell_below hbx u4
              replace u5 := cell_below hbx u5
              replace u6 := cell_below hbx u6
              replace k0 := cell_below hbx k0
              replace k1 := cell_below hbx k1
              replace k2_ := cell_below hbx k2_
              replace k3 := cell_below hbx k3
              replace k4 := cell_below hbx k4
              replace k5 := cell_below hbx k5
              replace k6 := cell_below hbx k6
              replace hbX := hcall hbX hbx
              replace CM := CM.below hbx
              replace D := below_call D hbx
              refine hK.out _ _ (by (try dsimp only); (exact ⟨u0, u1, u2, u3, u4, u5, u6, k0, k1, k2_, k3, k4, k5, k6⟩)) (fun hHeld => ?_)
              clear hK K
              try simp only [Act.put, List.getElem_toArray, List.getElem_cons_succ, List.getElem_cons_zero, List.setIfInBounds_toArray, List.set_cons_zero, List.set_cons_succ]
              refine Held.take (k := 11) (i := 11) (v := ?vj2q11) nosj2q okkj2q_11 sizj2q (by kernel_rfl) rfl (fun _ _ _ h => h) (Or.inl ⟨by kernel_rfl, ?hyj2q11⟩) (by assumption) ?restj2q11
              case hyj2q11 => (intro w hSw; (try dsimp only at hSw); go_simp; (try (first | with_reducible rfl | rw [if_neg (by omega)])))
              try simp only [Act.put, List.getElem_toArray, List.getElem_cons_succ, List.getElem_cons_zero, List.setIfInBounds_toArray, List.set_cons_zero, List.set_cons_succ]
              refine Held.take (k := 12) (i := 12) (v := ?vj2q12) nosj2q okkj2q_12 sizj2q (by kernel_rfl) rfl (fun _ _ _ h => h) (Or.inl ⟨by kernel_rfl, ?hyj2q12⟩) (by assumption) ?restj2q12
              case hyj2q12 => (intro w hSw; (try dsimp only at hSw); go_simp; (try (first | with_reducible rfl | rw [if_neg (by omega)])))
              try simp only [Act.put, List.getElem_toArray, List.getElem_cons_succ, List.getElem_cons_zero, List.setIfInBounds_toArray, List.set_cons_zero, List.set_cons_succ]
              refine Held.take (k := 13) (i := 13) (v := ?vj2q13) nosj2q okkj2q_13 sizj2q (by kernel_rfl) rfl (fun _ _ _ h => h) (Or.inl ⟨by kernel_rfl, ?hyj2q13⟩) (by assumption) ?restj2q13
              case hyj2q13 => (intro w hSw; (try dsimp only at hSw); go_simp; (try (first | with_reducible rfl | rw [if_neg (by omega)])))
              try simp only [Act.put, List.getElem_toArray, List.getElem_cons_succ, List.getElem_cons_zero, List.setIfInBounds_toArray, List.set_cons_zero, List.set_cons_succ]
              refine Held.take (k := 14) (i := 14) (v := ?vj2q14) nosj2q okkj2q_14 sizj2q (by kernel_rfl) rfl (fun _ _ _ h => h) (Or.inl ⟨by kernel_rfl, ?hyj2q14⟩) (by assumption) ?restj2q14
              case hyj2q14 => (intro w hSw; (try dsimp only at hSw); go_simp; (try (first | with_reducible rfl | rw [if_neg (by omega)])))
              try simp only [Act.put, List.getElem_toArray, List.getElem_cons_succ, List.getElem_cons_zero, List.setIfInBounds_toArray, List.set_cons_zero, List.set_cons_succ]
              refine Held.take (k := 15) (i := 15) (v := ?vj2q15) nosj2q okkj2q_15 sizj2q (by kernel_rfl) rfl (fun _ _ _ h => h) (Or.inl ⟨by kernel_rfl, ?hyj2q15⟩) (by assumption) ?restj2q15
              case hyj2q15 => (intro w hSw; (try dsimp only at hSw); go_simp; (try (first | with_reducible rfl | rw [if_neg (by omega)])))
              try simp only [Act.put, List.getElem_toArray, List.getElem_cons_succ, List.getElem_cons_zero, List.setIfInBounds_toArray, List.set_cons_zero, List.set_cons_succ]
              refine Held.only (k := 16) (i := 16) rdyj2q_16 (by kernel_rfl) rfl (by kernel_rfl) (fun K hK => ?_)
              go_simp
              go_at_call 39
              with_reducible refine (re_ (EmptyI_calls c_ d_ e_ f_ g_ _) (ret_bool HM1.out)).mono ?_
              rintro e w10 ⟨rfl, hbx⟩
              replace u0 := cell_below hbx u0
              replace u1 := cell_below hbx u1
              replace u2 := cell_below hbx u2
              replace u3 := cell_below hbx u3
              replace u4 := cell_below hbx u4
              replace u5 := cell_below hbx u5
              replace u6 := cell_below hbx u6
              replace k0 := cell_below hbx k0
              replace k1 := cell_below hbx k1
              replace k2_ := cell_below hbx k2_
              replace k3 := cell_below hbx k3
              replace k4 := cell_below hbx k4
              replace k5 := cell_below hbx k5
              replace k6 := cell_below hbx k6
              replace hbX := hcall hbX hbx
              replace CM := CM.below hbx
              replace D := below_call D hbx
              refine hK.out _ _ (by (try dsimp only); (exact ⟨u0, u1, u2, u3, u4, u5, u6, k0, k1, k2_, k3, k4, k5, k6⟩)) (fun hHeld => ?_)
              clear hK K
              try simp only [Act.put, List.getElem_toArray, List.getElem_cons_succ, List.getElem_cons_zero, List.setIfInBounds_toArray, List.set_cons_zero, List.set_cons_succ]
              refine Held.take (k := 17) (i := 17) (v := ?vj2q17) nosj2q okkj2q_17 sizj2q (by kernel_rfl) rfl (fun _ _ _ h => h) (Or.inl ⟨by kernel_rfl, ?hyj2q17⟩) (by assumption) ?restj2q17
              case hyj2q17 => (intro w hSw; (try dsimp only at hSw); go_simp; (try (first | with_reducible rfl | rw [if_neg (by omega)])))
              try simp only [Act.put, List.getElem_toArray, List.getElem_cons_succ, List.getElem_cons_zero, List.setIfInBounds_toArray, List.set_cons_zero, List.set_cons_succ]
              refine Held.take (k := 18) (i := 18) (v := undef) nosj2q okkj2q_18 sizj2q (by kernel_rfl) rfl (fun _ _ _ h => h) (Or.inr ⟨by kernel_rfl, rfl⟩) (by assumption) ?_
              try simp only [Act.put, List.getElem_toArray, List.getElem_cons_succ, List.getElem_cons_zero, List.setIfInBounds_toArray, List.set_cons_zero, List.set_cons_succ]
              refine Held.take (k := 19) (i := 19) (v := undef) nosj2q okkj2q_19 sizj2q (by kernel_rfl) rfl (fun _ _ _ h => h) (Or.inr ⟨by kernel_rfl, rfl⟩) (by assumption) ?_
              try simp only [Act.put, List.getElem_toArray, List.getElem_cons_succ, List.getElem_cons_zero, List.setIfInBounds_toArray, List.set_cons_zero, List.set_cons_succ]
              refine Held.take (k := 20) (i := 20) (v := undef) nosj2q okkj2q_20 sizj2q (by kernel_rfl) rfl (fun _ _ _ h => h) (Or.inr ⟨by kernel_rfl, rfl⟩) (by assumption) ?_
              try simp only [Act.put, List.getElem_toArray, List.getElem_cons_succ, List.getElem_cons_zero, List.setIfInBounds_toArray, List.set_cons_zero, List.set_cons_succ]
              refine Held.take (k := 21) (i := 21) (v := undef) nosj2q okkj2q_21 sizj2q (by kernel_rfl) rfl (fun _ _ _ h => h) (Or.inr ⟨by kernel_rfl, rfl⟩) (by assumption) ?_
              try simp only [Act.put, List.getElem_toArray, List.getElem_cons_succ, List.getElem_cons_zero, List.setIfInBounds_toArray, List.set_cons_zero, List.set_cons_succ]
              refine Held.take (k := 22) (i := 22) (v := undef) nosj2q okkj2q_22 sizj2q (by kernel_rfl) rfl (fun _ _ _ h => h) (Or.inr ⟨by kernel_rfl, rfl⟩) (by assumption) ?_
              try simp only [Act.put, List.getElem_toArray, List.getElem_cons_succ, List.getElem_cons_zero, List.setIfInBounds_toArray, List.set_cons_zero, List.set_cons_succ]
              refine Held.take (k := 23) (i := 23) (v := undef) nosj2q okkj2q_23 sizj2q (by kernel_rfl) rfl (fun _ _ _ h => h) (Or.inr ⟨by kernel_rfl, rfl⟩) (by assumption) ?_
              try simp only [Act.put, List.getElem_toArray, List.getElem_cons_succ, List.getElem_cons_zero, List.setIfInBounds_toArray, List.set_cons_zero, List.set_cons_succ]
              refine Held.take (k := 24) (i := 24) (v := ?vj2q24) nosj2q okkj2q_24 sizj2q (by kernel_rfl) rfl (fun _ _ _ h => h) (Or.inl ⟨by kernel_rfl, ?hyj2q24⟩) (by assumption) ?restj2q24
              case hyj2q24 => (intro w hSw; (try dsimp only at hSw); go_simp; (try (first | with_reducible rfl | rw [if_neg (by omega)])))
              try simp only [Act.put, List.getElem_toArray, List.getElem_cons_succ, List.getElem_cons_zero, List.setIfInBounds_toArray, List.set_cons_zero, List.set_cons_succ]
              refine Held.take (k := 25) (i := 25) (v := ?vj2q25) nosj2q okkj2q_25 sizj2q (by kernel_rfl) rfl (fun _ _ _ h => h) (Or.inl ⟨by kernel_rfl, ?hyj2q25⟩) (by assumption) ?restj2q25
              case hyj2q25 => (intro w hSw; (try dsimp only at hSw); go_simp; (try (first | with_reducible rfl | rw [if_neg (by omega)])))
              try simp only [Act.put, List.getElem_toArray, List.getElem_cons_succ, List.getElem_cons_zero, List.setIfInBounds_toArray, List.set_cons_zero, List.set_cons_succ]
              refine wpAnyH_done (by kernel_rfl) ?_ _
              clear u0 u1 u2 u3 u4 u5 u6 k0 k1 k2_ k3 k4 k5 k6
              have HK2 : Hid (∀ j (h : j < l.length), j < i + 1 → condRo l l[j] = true) := fun j h hj => by
                rcases Nat.lt_or_ge j i with h' | h'
                · exact HK.out j h h'
                · obtain rfl : j = i := by omega
                  rw [HCE.out, HFT.out, HM1.out]; first | rfl | (rw [HM2.out]; rfl)
              go_wp2
              exact ⟨⟨i + 1, by go_num, by omega, CM, D, HC2, HK2, HJ2⟩, by simp [intOf]; omega⟩
            | true =>
              cases m2 with
              | false =>
                clear uz
                replace hbX : w8.drew.heap[_]? = _ := hbX
                replace CM : CntMap w8.drew _ _ _ := CM
                replace D : Below _ _ w8.drew := D.drew
                go_wp2_with fail
                refine Held.start (ops := opsj3q) (S := fun w' => w'.cell? ⟨wr.heap.size, 0, none⟩ = some (.string a_) ∧ w'.cell? ⟨wr.heap.size, 1, none⟩ = some (.string b_) ∧ w'.cell? ⟨wr.heap.size, 2, none⟩ = some (.bool c_) ∧ w'.cell? ⟨wr.heap.size, 3, none⟩ = some (.bool d_) ∧ w'.cell? ⟨wr.heap.size, 4, none⟩ = some (.bool e_) ∧ w'.cell? ⟨wr.heap.size, 5, none⟩ = some (.bool f_) ∧ w'.cell? ⟨wr.heap.size, 6, none⟩ = some (.bool g_) ∧ w'.cell? (ad.add (k2 * 7)) = some (.string a') ∧ w'.cell? ⟨(ad.add (k2 * 7)).block, (ad.add (k2 * 7)).off + 1, none⟩ = some (.string b') ∧ w'.cell? ⟨(ad.add (k2 * 7)).block, (ad.add (k2 * 7)).off + 2, none⟩ = some (.bool c') ∧ w'.cell? ⟨(ad.add (k2 * 7)).block, (ad.add (k2 * 7)).off + 3, none⟩ = some (.bool d') ∧ w'.cell? ⟨(ad.add (k2 * 7)).block, (ad.add (k2 * 7)).off + 4, none⟩ = some (.bool e') ∧ w'.cell? ⟨(ad.add (k2 * 7)).block, (ad.add (k2 * 7)).off + 5, none⟩ = some (.bool f') ∧ w'.cell? ⟨(ad.add (k2 * 7)).block, (ad.add (k2 * 7)).off + 6, none⟩ = some (.bool g')) ordj3q 26 (by kernel_rfl) sizj3q (by kernel_rfl) ⟨u0, u1, u2, u3, u4, u5, u6, k0, k1, k2_, k3, k4, k5, k6⟩ (fun hHeld => ?_)
                refine Held.take (k := 0) (i := 0) (v := ?vj3q0) nosj3q okkj3q_0 sizj3q (by kernel_rfl) rfl (fun _ _ _ h => h) (Or.inl ⟨by kernel_rfl, ?hyj3q0⟩) (by assumption) ?restj3q0
                case hyj3q0 => (intro w hSw; (try dsimp only at hSw); go_simp; (try (first | with_reducible rfl | rw [if_neg (by omega)])))
                try simp only [Act.put, List.getElem_toArray, List.getElem_cons_succ, List.getElem_cons_zero, List.setIfInBounds_toArray, List.set_cons_zero, List.set_cons_succ]
                refine Held.take (k := 1) (i := 1) (v := ?vj3q1) nosj3q okkj3q_1 sizj3q (by kernel_rfl) rfl (fun _ _ _ h => h) (Or.inl ⟨by kernel_rfl, ?hyj3q1⟩) (by assumption) ?restj3q1
                case hyj3q1 => (intro w hSw; (try dsimp only at hSw); go_simp; (try (first | with_reducible rfl | rw [if_neg (by omega)])))
                try simp only [Act.put, List.getElem_toArray, List.getElem_cons_succ, List.getElem_cons_zero, List.setIfInBounds_toArray, List.set_cons_zero, List.set_cons_succ]
                refine Held.take (k := 2) (i := 2) (v := ?vj3q2) nosj3q okkj3q_2 sizj3q (by kernel_rfl) rfl (fun _ _ _ h => h) (Or.inl ⟨by kernel_rfl, ?hyj3q2⟩) (by assumption) ?restj3q2
                case hyj3q2 => (intro w hSw; (try dsimp only at hSw); go_simp; (try (first | with_reducible rfl | rw [if_neg (by omega)])))
                try simp only [Act.put, List.getElem_toArray, List.getElem_cons_succ, List.getElem_cons_zero, List.setIfInBounds_toArray, List.set_cons_zero, List.set_cons_succ]
                refine Held.take (k := 3) (i := 3) (v := ?vj3q3) nosj3q okkj3q_3 sizj3q (by kernel_rfl) rfl (fun _ _ _ h => h) (Or.inl ⟨by kernel_rfl, ?hyj3q3⟩) (by assumption) ?restj3q3
                case hyj3q3 => (intro w hSw; (try dsimp only at hSw); go_simp; (try (first | with_reducible rfl | rw [if_neg (by omega)])))
                try simp only [Act.put, List.getElem_toArray, List.getElem_cons_succ, List.getElem_cons_zero, List.setIfInBounds_toArray, List.set_cons_zero, List.set_cons_succ]
                refine Held.take (k := 4) (i := 4) (v := ?vj3q4) nosj3q okkj3q_4 sizj3q (by kernel_rfl) rfl (fun _ _ _ h => h) (Or.inl ⟨by kernel_rfl, ?hyj3q4⟩) (by assumption) ?restj3q4
                case hyj3q4 => (intro w hSw; (try dsimp only at hSw); go_simp; (try (first | with_reducible rfl | rw [if_neg (by omega)])))
                try simp only [Act.put, List.getElem_toArray, List.getElem_cons_succ, List.getElem_cons_zero, List.setIfInBounds_toArray, List.set_cons_zero, List.set_cons_succ]
                refine Held.take (k := 5) (i := 5) (v := ?vj3q5) nosj3q okkj3q_5 sizj3q (by kernel_rfl) rfl (fun _ _ _ h => h) (Or.inl ⟨by kernel_rfl, ?hyj3q5⟩) (by assumption) ?restj3q5
                case hyj3q5 => (intro w hSw; (try dsimp only at hSw); go_simp; (try (first | with_reducible rfl | rw [if_neg (by omega)])))
                try simp only [Act.put, List.getElem_toArray, List.getElem_cons_succ, List.getElem_cons_zero, List.setIfInBounds_toArray, List.set_cons_zero, List.set_cons_succ]
                refine Held.take (k := 6) (i := 6) (v := ?vj3q6) nosj3q okkj3q_6 sizj3q (by kernel_rfl) rfl (fun _ _ _ h => h) (Or.inl ⟨by kernel_rfl, ?hyj3q6⟩) (by assumption) ?restj3q6
                case hyj3q6 => (intro w hSw; (try dsimp only at hSw); go_simp; (try (first | with_reducible rfl | rw [if_neg (by omega)])))
                try simp only [Act.put, List.getElem_toArray, List.getElem_cons_succ, List.getElem_cons_zero, List.setIfInBounds_toArray, List.set_cons_zero, List.set_cons_succ]
                refine Held.take (k := 7) (i := 7) (v := ?vj3q7) nosj3q okkj3q_7 sizj3q (by kernel_rfl) rfl (fun _ _ _ h => h) (Or.inl ⟨by kernel_rfl, ?hyj3q7⟩) (by assumption) ?restj3q7
                case hyj3q7 => (intro w hSw; (try dsimp only at hSw); go_simp; (try (first | with_reducible rfl | rw [if_neg (by omega)])))
                try simp only [Act.put, List.getElem_toArray, List.getElem_cons_succ, List.getElem_cons_zero, List.setIfInBounds_toArray, List.set_cons_zero, List.set_cons_succ]
                refine Held.take (k := 8) (i := 8) (v := ?vj3q8) nosj3q okkj3q_8 sizj3q (by kernel_rfl) rfl (fun _ _ _ h => h) (Or.inl ⟨by kernel_rfl, ?hyj3q8⟩) (by assumption) ?restj3q8
                case hyj3q8 => (intro w hSw; (try dsimp only at hSw); go_simp; (try (first | with_reducible rfl | rw [if_neg (by omega)])))
                try simp only [Act.put, List.getElem_toArray, List.getElem_cons_succ, List.getElem_cons_zero, List.setIfInBounds_toArray, List.set_cons_zero, List.set_cons_succ]
                refine Held.take (k := 9) (i := 9) (v := ?vj3q9) nosj3q okkj3q_9 sizj3q (by kernel_rfl) rfl (fun _ _ _ h => h) (Or.inl ⟨by kernel_rfl, ?hyj3q9⟩) (by assumption) ?restj3q9
                case hyj3q9 => (intro w hSw; (try dsimp only at hSw); go_simp; (try (first | with_reducible rfl | rw [if_neg (by omega)])))
                try simp only [Act.put, List.getElem_toArray, List.getElem_cons_succ, List.getElem_cons_zero, List.setIfInBounds_toArray, List.set_cons_zero, List.set_cons_succ]
                refine Held.only (k := 10) (i := 10) rdyj3q_10 (by kernel_rfl) rfl (by kernel_rfl) (fun K hK => ?_)
                go_simp
                go_at_call 30
                with_reducible refine (re_ (MayI_calls c_ d_ e_ f_ g_ c' d' e' f' g' _) (ret_bool HFT.out)).mono ?_
                rintro e w9 ⟨rfl, hbx⟩
                replace u0 := cell_below hbx u0
                replace u1 := cell_below hbx u1
                replace u2 := cell_below hbx u2
                replace u3 := cell_below hbx u3
                replace u4 := cell_below hbx u4
                replace u5 := cell_below hbx u5
                replace u6 := cell_below hbx u6
                replace k0 := cell_below hbx k0
                replace k1 := cell_below hbx k1
                replace k2_ := cell_below hbx k2_
                replace k3 := cell_below hbx k3
                replace k4 := cell_below hbx k4
                replace k5 := cell_below hbx k5
                replace k6 := cell_below hbx k6
                replace hbX := hcall hbX hbx
                replace CM := CM.below hbx
                replace D := below_call D hbx
                refine hK.out _ _ (by (try dsimp only); (exact ⟨u0, u1, u2, u3, u4, u5, u6, k0, k1, k2_, k3, k4, k5, k6⟩)) (fun hHeld => ?_)
                clear hK K
                try simp only [Act.put, List.getElem_toArray, List.getElem_cons_succ, List.getElem_cons_zero, List.setIfInBounds_toArray, List.set_cons_zero, List.set_cons_succ]
                refine Held.take (k := 11) (i := 11) (v := ?vj3q11) nosj3q okkj3q_11 sizj3q (by kernel_rfl) rfl (fun _ _ _ h => h) (Or.inl ⟨by kernel_rfl, ?hyj3q11⟩) (by assumption) ?restj3q11
                case hyj3q11 => (intro w hSw; (try dsimp only at hSw); go_simp; (try (first | with_reducible rfl | rw [if_neg (by omega)])))
                try simp only [Act.put, List.getElem_toArray, List.getElem_cons_succ, List.getElem_cons_zero, List.setIfInBounds_toArray, List.set_cons_zero, List.set_cons_succ]
                refine Held.take (k := 12) (i := 12) (v := ?vj3q12) nosj3q okkj3q_12 sizj3q (by kernel_rfl) rfl (fun _ _ _ h => h) (Or.inl ⟨by kernel_rfl, ?hyj3q12⟩) (by assumption) ?restj3q12
                case hyj3q12 => (intro w hSw; (try dsimp only at hSw); go_simp; (try (first | with_reducible rfl | rw [if_neg (by omega)])))
                try simp only [Act.put, List.getElem_toArray, List.getElem_cons_succ, List.getElem_cons_zero, List.setIfInBounds_toArray, List.set_cons_zero, List.set_cons_succ]
                refine Held.take (k := 13) (i := 13) (v := ?vj3q13) nosj3q okkj3q_13 sizj3q (by kernel_rfl) rfl (fun _ _ _ h => h) (Or.inl ⟨by kernel_rfl, ?hyj3q13⟩) (by assumption) ?restj3q13
                case hyj3q13 => (intro w hSw; (try dsimp only at hSw); go_simp; (try (first | with_reducible rfl | rw [if_neg (by omega)])))
                try simp only [Act.put, List.getElem_toArray, List.getElem_cons_succ, List.getElem_cons_zero, List.setIfInBounds_toArray, List.set_cons_zero, List.set_cons_succ]
                refine Held.take (k := 14) (i := 14) (v := ?vj3q14) nosj3q okkj3q_14 sizj3q (by kernel_rfl) rfl (fun _ _ _ h => h) (Or.inl ⟨by kernel_rfl, ?hyj3q14⟩) (by assumption) ?restj3q14
                case hyj3q14 => (intro w hSw; (try dsimp only at hSw); go_simp; (try (first | with_reducible rfl | rw [if_neg (by omega)])))
                try simp only [Act.put, List.getElem_toArray, List.getElem_cons_succ, List.getElem_cons_zero, List.setIfInBounds_toArray, List.set_cons_zero, List.set_cons_succ]
                refine Held.take (k := 15) (i := 15) (v := ?vj3q15) nosj3q okkj3q_15 sizj3q (by kernel_rfl) rfl (fun _ _ _ h => h) (Or.inl ⟨by kernel_rfl, ?hyj3q15⟩) (by assumption) ?restj3q15
                case hyj3q15 => (intro w hSw; (try dsimp only at hSw); go_simp; (try (first | with_reducible rfl | rw [if_neg (by omega)])))
                try simp only [Act.put, List.getElem_toArray, List.getElem_cons_succ, List.getElem_cons_zero, List.setIfInBounds_toArray, List.set_cons_zero, List.set_cons_succ]
                refine Held.only (k := 16) (i := 16) rdyj3q_16 (by kernel_rfl) rfl (by kernel_rfl) (fun K hK => ?_)
                go_simp
                go_at_call 39
                with_reducible refine (re_ (EmptyI_calls c_ d_ e_ f_ g_ _) (ret_bool HM1.out)).mono ?_
                rintro e w10 ⟨rfl, hbx⟩
                replace u0 := cell_below hbx u0
                replace u1 := cell_below hbx u1
                replace u2 := cell_below hbx u2
                replace u3 := cell_below hbx u3
                replace u4 := cell_below hbx u4
                replace u5 := cell_below hbx u5
                replace u6 := cell_below hbx u6
                replace k0 := cell_below hbx k0
                replace k1 := cell_below hbx k1
                replace k2_ := cell_below hbx k2_
                replace k3 := cell_below hbx k3
                replace k4 := cell_below hbx k4
                replace k5 := cell_below hbx k5
                replace k6 := cell_below hbx k6
                replace hbX := hcall hbX hbx
                replace CM := CM.below hbx
                replace D := below_call D hbx
                refine hK.out _ _ (by (try dsimp only); (exact ⟨u0, u1, u2, u3, u4, u5, u6, k0, k1, k2_, k3, k4, k5, k6⟩)) (fun hHeld => ?_)
                clear hK K
                try simp only [Act.put, List.getElem_toArray, List.getElem_cons_succ, List.getElem_cons_zero, List.setIfInBounds_toArray, List.set_cons_zero, List.set_cons_succ]
                refine Held.take (k := 17) (i := 17) (v := ?vj3q17) nosj3q okkj3q_17 sizj3q (by kernel_rfl) rfl (fun _ _ _ h => h) (Or.inl ⟨by kernel_rfl, ?hyj3q17⟩) (by assumption) ?restj3q17
                case hyj3q17 => (intro w hSw; (try dsimp only at hSw); go_simp; (try (first | with_reducible rfl | rw [if_neg (by omega)])))
                try simp only [Act.put, List.getElem_toArray, List.getElem_cons_succ, List.getElem_cons_zero, List.setIfInBounds_toArray, List.set_cons_zero, List.set_cons_succ]
                refine Held.take (k := 18) (i := 18) (v := ?vj3q18) nosj3q okkj3q_18 sizj3q (by kernel_rfl) rfl (fun _ _ _ h => h) (Or.inl ⟨by kernel_rfl, ?hyj3q18⟩) (by assumption) ?restj3q18
                case hyj3q18 => (intro w hSw; (try dsimp only at hSw); go_simp; (try (first | with_reducible rfl | rw [if_neg (by omega)])))
                try simp only [Act.put, List.getElem_toArray, List.getElem_cons_succ, List.getElem_cons_zero, List.setIfInBounds_toArray, List.set_cons_zero, List.set_cons_succ]
                refine Held.take (k := 19) (i := 19) (v := ?vj3q19) nosj3q okkj3q_19 sizj3q (by kernel_rfl) rfl (fun _ _ _ h => h) (Or.inl ⟨by kernel_rfl, ?hyj3q19⟩) (by assumption) ?restj3q19
                case hyj3q19 => (intro w hSw; (try dsimp only at hSw); go_simp; (try (first | with_reducible rfl | rw [if_neg (by omega)])))
                try simp only [Act.put, List.getElem_toArray, List.getElem_cons_succ, List.getElem_cons_zero, List.setIfInBounds_toArray, List.set_cons_zero, List.set_cons_succ]
                refine Held.take (k := 20) (i := 20) (v := ?vj3q20) nosj3q okkj3q_20 sizj3q (by kernel_rfl) rfl (fun _ _ _ h => h) (Or.inl ⟨by kernel_rfl, ?hyj3q20⟩) (by assumption) ?restj3q20
                case hyj3q20 => (intro w hSw; (try dsimp only at hSw); go_simp; (try (first | with_reducible rfl | rw [if_neg (by omega)])))
                try simp only [Act.put, List.getElem_toArray, List.getElem_cons_succ, List.getElem_cons_zero, List.setIfInBounds_toArray, List.set_cons_zero, List.set_cons_succ]
                refine Held.take (k := 21) (i := 21) (v := ?vj3q21) nosj3q okkj3q_21 sizj3q (by kernel_rfl) rfl (fun _ _ _ h => h) (Or.inl ⟨by kernel_rfl, ?hyj3q21⟩) (by assumption) ?restj3q21
                case hyj3q21 => (intro w hSw; (try dsimp only at hSw); go_simp; (try (first | with_reducible rfl | rw [if_neg (by omega)])))
                try simp only [Act.put, List.getElem_toArray, List.getElem_cons_succ, List.getElem_cons_zero, List.setIfInBounds_toArray, List.set_cons_zero, List.set_cons_succ]
                refine Held.take (k := 22) (i := 22) (v := ?vj3q22) nosj3q okkj3q_22 sizj3q (by kernel_rfl) rfl (fun _ _ _ h => h) (Or.inl ⟨by kernel_rfl, ?hyj3q22⟩) (by assumption) ?restj3q22
                case hyj3q22 => (intro w hSw; (try dsimp only at hSw); go_simp; (try (first | with_reducible rfl | rw [if_neg (by omega)])))
                try simp only [Act.put, List.getElem_toArray, List.getElem_cons_succ, List.getElem_cons_zero, List.setIfInBounds_toArray, List.set_cons_zero, List.set_cons_succ]
                refine Held.only (k := 23) (i := 23) rdyj3q_23 (by kernel_rfl) rfl (by kernel_rfl) (fun K hK => ?_)
                go_simp
                go_at_call 39
                with_reducible refine (re_ (EmptyI_calls c' d' e' f' g' _) (ret_bool HM2.out)).mono ?_
                rintro e w11 ⟨rfl, hbx⟩
                replace u0 := cell_below hbx u0
                replace u1 := cell_below hbx u1
                replace u2 := cell_below hbx u2
                replace u3 := cell_below hbx u3
                replace u4 := cell_below hbx u4
                replace u5 := cell_below hbx u5
                replace u6 := cell_below hbx u6
                replace k0 := cell_below hbx k0
                replace k1 := cell_below hbx k1
                replace k2_ := cell_below hbx k2_
                replace k3 := cell_below hbx k3
                replace k4 := cell_below hbx k4
                replace k5 := cell_below hbx k5
                replace k6 := cell_below hbx k6
                replace hbX := hcall hbX hbx
                replace CM := CM.below hbx
                replace D := below_call D hbx
                refine hK.out _ _ (by (try dsimp only); (exact ⟨u0, u1, u2, u3, u4, u5, u6, k0, k1, k2_, k3, k4, k5, k6⟩)) (fun hHeld => ?_)
                clear hK K
                try simp only [Act.put, List.getElem_toArray, List.getElem_cons_succ, List.getElem_cons_zero, List.setIfInBounds_toArray, List.set_cons_zero, List.set_cons_succ]
                refine Held.take (k := 24) (i := 24) (v := ?vj3q24) nosj3q okkj3q_24 sizj3q (by kernel_rfl) rfl (fun _ _ _ h => h) (Or.inl ⟨by kernel_rfl, ?hyj3q24⟩) (by assumption) ?restj3q24
                case hyj3q24 => (intro w hSw; (try dsimp only at hSw); go_simp; (try (first | with_reducible rfl | rw [if_neg (by omega)])))
                try simp only [Act.put, List.getElem_toArray, List.getElem_cons_succ, List.getElem_cons_zero, List.setIfInBounds_toArray, List.set_cons_zero, List.set_cons_succ]
                refine Held.take (k := 25) (i := 25) (v := ?vj3q25) nosj3q okkj3q_25 sizj3q (by kernel_rfl) rfl (fun _ _ _ h => h) (Or.inl ⟨by kernel_rfl, ?hyj3q25⟩) (by assumption) ?restj3q25
                case hyj3q25 => (intro w hSw; (try dsimp only at hSw); go_simp; (try (first | with_reducible rfl | rw [if_neg (by omega)])))
                try simp only [Act.put, List.getElem_toArray, List.getElem_cons_succ, List.getElem_cons_zero, List.setIfInBounds_toArray, List.set_cons_zero, List.set_cons_succ]
                refine wpAnyH_done (by kernel_rfl) ?_ _
                clear u0 u1 u2 u3 u4 u5 u6 k0 k1 k2_ k3 k4 k5 k6
                have HK2 : Hid (∀ j (h : j < l.length), j < i + 1 → condRo l l[j] = true) := fun j h hj => by
                  rcases Nat.lt_or_ge j i with h' | h'
                  · exact HK.out j h h'
                  · obtain rfl : j = i := by omega
                    rw [HCE.out, HFT.out, HM1.out]; first | rfl | (rw [HM2.out]; rfl)
                go_wp2
                exact ⟨⟨i + 1, by go_num, by omega, CM, D, HC2, HK2, HJ2⟩, by simp [intOf]; omega⟩
              | true =>
                have HF : Hid (r = false) := by
                  show _ = _
                  rw [← HR.out]
                  exact mayRo_no_cond i hil (by rw [HCE.out, HFT.out, HM1.out, HM2.out]; rfl)
                clear uz
                replace hbX : w8.drew.heap[_]? = _ := hbX
                replace CM : CntMap w8.drew _ _ _ := CM
                replace D : Below _ _ w8.drew := D.drew
                go_wp2_with fail
                refine Held.start (ops := opsj4q) (S := fun w' => w'.cell? ⟨wr.heap.size, 0, none⟩ = some (.string a_) ∧ w'.cell? ⟨wr.heap.size, 1, none⟩ = some (.string b_) ∧ w'.cell? ⟨wr.heap.size, 2, none⟩ = some (.bool c_) ∧ w'.cell? ⟨wr.heap.size, 3, none⟩ = some (.bool d_) ∧ w'.cell? ⟨wr.heap.size, 4, none⟩ = some (.bool e_) ∧ w'.cell? ⟨wr.heap.size, 5, none⟩ = some (.bool f_) ∧ w'.cell? ⟨wr.heap.size, 6, none⟩ = some (.bool g_) ∧ w'.cell? (ad.add (k2 * 7)) = some (.string a') ∧ w'.cell? ⟨(ad.add (k2 * 7)).block, (ad.add (k2 * 7)).off + 1, none⟩ = some (.string b') ∧ w'.cell? ⟨(ad.add (k2 * 7)).block, (ad.add (k2 * 7)).off + 2, none⟩ = some (.bool c') ∧ w'.cell? ⟨(ad.add (k2 * 7)).block, (ad.add (k2 * 7)).off + 3, none⟩ = some (.bool d') ∧ w'.cell? ⟨(ad.add (k2 * 7)).block, (ad.add (k2 * 7)).off + 4, none⟩ = some (.bool e') ∧ w'.cell? ⟨(ad.add (k2 * 7)).block, (ad.add (k2 * 7)).off + 5, none⟩ = some (.bool f') ∧ w'.cell? ⟨(ad.add (k2 * 7)).block, (ad.add (k2 * 7)).off + 6, none⟩ = some (.bool g')) ordj4q 26 (by kernel_rfl) sizj4q (by kernel_rfl) ⟨u0, u1, u2, u3, u4, u5, u6, k0, k1, k2_, k3, k4, k5, k6⟩ (fun hHeld => ?_)
                refine Held.take (k := 0) (i := 0) (v := ?vj4q0) nosj4q okkj4q_0 sizj4q (by kernel_rfl) rfl (fun _ _ _ h => h) (Or.inl ⟨by kernel_rfl, ?hyj4q0⟩) (by assumption) ?restj4q0
                case hyj4q0 => (intro w hSw; (try dsimp only at hSw); go_simp; (try (first | with_reducible rfl | rw [if_neg (by omega)])))
                try simp only [Act.put, List.getElem_toArray, List.getElem_cons_succ, List.getElem_cons_zero, List.setIfInBounds_toArray, List.set_cons_zero, List.set_cons_succ]
                refine Held.take (k := 1) (i := 1) (v := ?vj4q1) nosj4q okkj4q_1 sizj4q (by kernel_rfl) rfl (fun _ _ _ h => h) (Or.inl ⟨by kernel_rfl, ?hyj4q1⟩) (by assumption) ?restj4q1
                case hyj4q1 => (intro w hSw; (try dsimp only at hSw); go_simp; (try (first | with_reducible rfl | rw [if_neg (by omega)])))
                try simp only [Act.put, List.getElem_toArray, List.getElem_cons_succ, List.getElem_cons_zero, List.setIfInBounds_toArray, List.set_cons_zero, List.set_cons_succ]
                refine Held.take (k := 2) (i := 2) (v := ?vj4q2) nosj4q okkj4q_2 sizj4q (by kernel_rfl) rfl (fun _ _ _ h => h) (Or.inl ⟨by kernel_rfl, ?hyj4q2⟩) (by assumption) ?restj4q2
                case hyj4q2 => (intro w hSw; (try dsimp only at hSw); go_simp; (try (first | with_reducible rfl | rw [if_neg (by omega)])))
                try simp only [Act.put, List.getElem_toArray, List.getElem_cons_succ, List.getElem_cons_zero, List.setIfInBounds_toArray, List.set_cons_zero, List.set_cons_succ]
                refine Held.take (k := 3) (i := 3) (v := ?vj4q3) nosj4q okkj4q_3 sizj4q (by kernel_rfl) rfl (fun _ _ _ h => h) (Or.inl ⟨by kernel_rfl, ?hyj4q3⟩) (by assumption) ?restj4q3
                case hyj4q3 => (intro w hSw; (try dsimp only at hSw); go_simp; (try (first | with_reducible rfl | rw [if_neg (by omega)])))
                try simp only [Act.put, List.getElem_toArray, List.getElem_cons_succ, List.getElem_cons_zero, List.setIfInBounds_toArray, List.set_cons_zero, List.set_cons_succ]
                refine Held.take (k := 4) (i := 4) (v := ?vj4q4) nosj4q okkj4q_4 sizj4q (by kernel_rfl) rfl (fun _ _ _ h => h) (Or.inl ⟨by kernel_rfl, ?hyj4q4⟩) (by assumption) ?restj4q4
                case hyj4q4 => (intro w hSw; (try dsimp only at hSw); go_simp; (try (first | with_reducible rfl | rw [if_neg (by omega)])))
                try simp only [Act.put, List.getElem_toArray, List.getElem_cons_succ, List.getElem_cons_zero, List.setIfInBounds_toArray, List.set_cons_zero, List.set_cons_succ]
                refine Held.take (k := 5) (i := 5) (v := ?vj4q5) nosj4q okkj4q_5 sizj4q (by kernel_rfl) rfl (fun _ _ _ h => h) (Or.inl ⟨by kernel_rfl, ?hyj4q5⟩) (by assumption) ?restj4q5
                case hyj4q5 => (intro w hSw; (try dsimp only at hSw); go_simp; (try (first | with_reducible rfl | rw [if_neg (by omega)])))
                try simp only [Act.put, List.getElem_toArray, List.getElem_cons_succ, List.getElem_cons_zero, List.setIfInBounds_toArray, List.set_cons_zero, List.set_cons_succ]
                refine Held.take (k := 6) (i := 6) (v := ?vj4q6) nosj4q okkj4q_6 sizj4q (by kernel_rfl) rfl (fun _ _ _ h => h) (Or.inl ⟨by kernel_rfl, ?hyj4q6⟩) (by assumption) ?restj4q6
                case hyj4q6 => (intro w hSw; (try dsimp only at hSw); go_simp; (try (first | with_reducible rfl | rw [if_neg (by omega)])))
                try simp only [Act.put, List.getElem_toArray, List.getElem_cons_succ, List.getElem_cons_zero, List.setIfInBounds_toArray, List.set_cons_zero, List.set_cons_succ]
                refine Held.take (k := 7) (i := 7) (v := ?vj4q7) nosj4q okkj4q_7 sizj4q (by kernel_rfl) rfl (fun _ _ _ h => h) (Or.inl ⟨by kernel_rfl, ?hyj4q7⟩) (by assumption) ?restj4q7
                case hyj4q7 => (intro w hSw; (try dsimp only at hSw); go_simp; (try (first | with_reducible rfl | rw [if_neg (by omega)])))
                try simp only [Act.put, List.getElem_toArray, List.getElem_cons_succ, List.getElem_cons_zero, List.setIfInBounds_toArray, List.set_cons_zero, List.set_cons_succ]
                refine Held.take (k := 8) (i := 8) (v := ?vj4q8) nosj4q okkj4q_8 sizj4q (by kernel_rfl) rfl (fun _ _ _ h => h) (Or.inl ⟨by kernel_rfl, ?hyj4q8⟩) (by assumption) ?restj4q8
                case hyj4q8 => (intro w hSw; (try dsimp only at hSw); go_simp; (try (first | with_reducible rfl | rw [if_neg (by omega)])))
                try simp only [Act.put, List.getElem_toArray, List.getElem_cons_succ, List.getElem_cons_zero, List.setIfInBounds_toArray, List.set_cons_zero, List.set_cons_succ]
                refine Held.take (k := 9) (i := 9) (v := ?vj4q9) nosj4q okkj4q_9 sizj4q (by kernel_rfl) rfl (fun _ _ _ h => h) (Or.inl ⟨by kernel_rfl, ?hyj4q9⟩) (by assumption) ?restj4q9
                case hyj4q9 => (intro w hSw; (try dsimp only at hSw); go_simp; (try (first | with_reducible rfl | rw [if_neg (by omega)])))
                try simp only [Act.put, List.getElem_toArray, List.getElem_cons_succ, List.getElem_cons_zero, List.setIfInBounds_toArray, List.set_cons_zero, List.set_cons_succ]
                refine Held.only (k := 10) (i := 10) rdyj4q_10 (by kernel_rfl) rfl (by kernel_rfl) (fun K hK => ?_)
                go_simp
                go_at_call 30
                with_reducible refine (re_ (MayI_calls c_ d_ e_ f_ g_ c' d' e' f' g' _) (ret_bool HFT.out)).mono ?_
                rintro e w9 ⟨rfl, hbx⟩
                replace u0 := cell_below hbx u0
                replace u1 := cell_below hbx u1
                replace u2 := cell_below hbx u2
                replace u3 := cell_below hbx u3
                replace u4 := cell_below hbx u4
                replace u5 := cell_below hbx u5
                replace u6 := cell_below hbx u6
                replace k0 := cell_below hbx k0
                replace k1 := cell_below hbx k1
                replace k2_ := cell_below hbx k2_
                replace k3 := cell_below hbx k3
                replace k4 := cell_below hbx k4
                replace k5 := cell_below hbx k5
                replace k6 := cell_below hbx k6
                replace hbX := hcall hbX hbx
                replace CM := CM.below hbx
                replace D := below_call D hbx
                refine hK.out _ _ (by (try dsimp only); (exact ⟨u0, u1, u2, u3, u4, u5, u6, k0, k1, k2_, k3, k4, k5, k6⟩)) (fun hHeld => ?_)
                clear hK K
                try simp only [Act.put, List.getElem_toArray, List.getElem_cons_succ, List.getElem_cons_zero, List.setIfInBounds_toArray, List.set_cons_zero, List.set_cons_succ]
                refine Held.take (k := 11) (i := 11) (v := ?vj4q11) nosj4q okkj4q_11 sizj4q (by kernel_rfl) rfl (fun _ _ _ h => h) (Or.inl ⟨by kernel_rfl, ?hyj4q11⟩) (by assumption) ?restj4q11
                case hyj4q11 => (intro w hSw; (try dsimp only at hSw); go_simp; (try (first | with_reducible rfl | rw [if_neg (by omega)])))
                try simp only [Act.put, List.getElem_toArray, List.getElem_cons_succ, List.getElem_cons_zero, List.setIfInBounds_toArray, List.set_cons_zero, List.set_cons_succ]
                refine Held.take (k := 12) (i := 12) (v := ?vj4q12) nosj4q okkj4q_12 sizj4q (by kernel_rfl) rfl (fun _ _ _ h => h) (Or.inl ⟨by kernel_rfl, ?hyj4q12⟩) (by assumption) ?restj4q12
                case hyj4q12 => (intro w hSw; (try dsimp only at hSw); go_simp; (try (first | with_reducible rfl | rw [if_neg (by omega)])))
                try simp only [Act.put, List.getElem_toArray, List.getElem_cons_succ, List.getElem_cons_zero, List.setIfInBounds_toArray, List.set_cons_zero, List.set_cons_succ]
                refine Held.take (k := 13) (i := 13) (v := ?vj4q13) nosj4q okkj4q_13 sizj4q (by kernel_rfl) rfl (fun _ _ _ h => h) (Or.inl ⟨by kernel_rfl, ?hyj4q13⟩) (by assumption) ?restj4q13
                case hyj4q13 => (intro w hSw; (try dsimp only at hSw); go_simp; (try (first | with_reducible rfl | rw [if_neg (by omega)])))
                try simp only [Act.put, List.getElem_toArray, List.getElem_cons_succ, List.getElem_cons_zero, List.setIfInBounds_toArray, List.set_cons_zero, List.set_cons_succ]
                refine Held.take (k := 14) (i := 14) (v := ?vj4q14) nosj4q okkj4q_14 sizj4q (by kernel_rfl) rfl (fun _ _ _ h => h) (Or.inl ⟨by kernel_rfl, ?hyj4q14⟩) (by assumption) ?restj4q14
                case hyj4q14 => (intro w hSw; (try dsimp only at hSw); go_simp; (try (first | with_reducible rfl | rw [if_neg (by omega)])))
                try simp only [Act.put, List.getElem_toArray, List.getElem_cons_succ, List.getElem_cons_zero, List.setIfInBounds_toArray, List.set_cons_zero, List.set_cons_succ]
                refine Held.take (k := 15) (i := 15) (v := ?vj4q15) nosj4q okkj4q_15 sizj4q (by kernel_rfl) rfl (fun _ _ _ h => h) (Or.inl ⟨by kernel_rfl, ?hyj4q15⟩) (by assumption) ?restj4q15
                case hyj4q15 => (intro w hSw; (try dsimp only at hSw); go_simp; (try (first | with_reducible rfl | rw [if_neg (by omega)])))
                try simp only [Act.put, List.getElem_toArray, List.getElem_cons_succ, List.getElem_cons_zero, List.setIfInBounds_toArray, List.set_cons_zero, List.set_cons_succ]
                refine Held.only (k := 16) (i := 16) rdyj4q_16 (by kernel_rfl) rfl (by kernel_rfl) (fun K hK => ?_)
                go_simp
                go_at_call 39
                with_reducible refine (re_ (EmptyI_calls c_ d_ e_ f_ g_ _) (ret_bool HM1.out)).mono ?_
                rintro e w10 ⟨rfl, hbx⟩
                replace u0 := cell_below hbx u0
                replace u1 := cell_below hbx u1
                replace u2 := cell_below hbx u2
                replace u3 := cell_below hbx u3
                replace u4 := cell_below hbx u4
                replace u5 := cell_below hbx u5
                replace u6 := cell_below hbx u6
                replace k0 := cell_below hbx k0
                replace k1 := cell_below hbx k1
                replace k2_ := cell_below hbx k2_
                replace k3 := cell_below hbx k3
                replace k4 := cell_below hbx k4
                replace k5 := cell_below hbx k5
                replace k6 := cell_below hbx k6
                replace hbX := hcall hbX hbx
                replace CM := CM.below hbx
                replace D := below_call D hbx
                refine hK.out _ _ (by (try dsimp only); (exact ⟨u0, u1, u2, u3, u4, u5, u6, k0, k1, k2_, k3, k4, k5, k6⟩)) (fun hHeld => ?_)
                clear hK K
                try simp only [Act.put, List.getElem_toArray, List.getElem_cons_succ, List.getElem_cons_zero, List.setIfInBounds_toArray, List.set_cons_zero, List.set_cons_succ]
                refine Held.take (k := 17) (i := 17) (v := ?vj4q17) nosj4q okkj4q_17 sizj4q (by kernel_rfl) rfl (fun _ _ _ h => h) (Or.inl ⟨by kernel_rfl, ?hyj4q17⟩) (by assumption) ?restj4q17
                case hyj4q17 => (intro w hSw; (try dsimp only at hSw); go_simp; (try (first | with_reducible rfl | rw [if_neg (by omega)])))
                try simp only [Act.put, List.getElem_toArray, List.getElem_cons_succ, List.getElem_cons_zero, List.setIfInBounds_toArray, List.set_cons_zero, List.set_cons_succ]
                refine Held.take (k := 18) (i := 18) (v := ?vj4q18) nosj4q okkj4q_18 sizj4q (by kernel_rfl) rfl (fun _ _ _ h => h) (Or.inl ⟨by kernel_rfl, ?hyj4q18⟩) (by assumption) ?restj4q18
                case hyj4q18 => (intro w hSw; (try dsimp only at hSw); go_simp; (try (first | with_reducible rfl | rw [if_neg (by omega)])))
                try simp only [Act.put, List.getElem_toArray, List.getElem_cons_succ, List.getElem_cons_zero, List.setIfInBounds_toArray, List.set_cons_zero, List.set_cons_succ]
                refine Held.take (k := 19) (i := 19) (v := ?vj4q19) nosj4q okkj4q_19 sizj4q (by kernel_rfl) rfl (fun _ _ _ h => h) (Or.inl ⟨by kernel_rfl, ?hyj4q19⟩) (by assumption) ?restj4q19
                case hyj4q19 => (intro w hSw; (try dsimp only at hSw); go_simp; (try (first | with_reducible rfl | rw [if_neg (by omega)])))
                try simp only [Act.put, List.getElem_toArray, List.getElem_cons_succ, List.getElem_cons_zero, List.setIfInBounds_toArray, List.set_cons_zero, List.set_cons_succ]
                refine Held.take (k := 20) (i := 20) (v := ?vj4q20) nosj4q okkj4q_20 sizj4q (by kernel_rfl) rfl (fun _ _ _ h => h) (Or.inl ⟨by kernel_rfl, ?hyj4q20⟩) (by assumption) ?restj4q20
                case hyj4q20 => (intro w hSw; (try dsimp only at hSw); go_simp; (try (first | with_reducible rfl | rw [if_neg (by omega)])))
                try simp only [Act.put, List.getElem_toArray, List.getElem_cons_succ, List.getElem_cons_zero, List.setIfInBounds_toArray, List.set_cons_zero, List.set_cons_succ]
                refine Held.take (k := 21) (i := 21) (v := ?vj4q21) nosj4q okkj4q_21 sizj4q (by kernel_rfl) rfl (fun _ _ _ h => h) (Or.inl ⟨by kernel_rfl, ?hyj4q21⟩) (by assumption) ?restj4q21
                case hyj4q21 => (intro w hSw; (try dsimp only at hSw); go_simp; (try (first | with_reducible rfl | rw [if_neg (by omega)])))
                try simp only [Act.put, List.getElem_toArray, List.getElem_cons_succ, List.getElem_cons_zero, List.setIfInBounds_toArray, List.set_cons_zero, List.set_cons_succ]
                refine Held.take (k := 22) (i := 22) (v := ?vj4q22) nosj4q okkj4q_22 sizj4q (by kernel_rfl) rfl (fun _ _ _ h => h) (Or.inl ⟨by kernel_rfl, ?hyj4q22⟩) (by assumption) ?restj4q22
                case hyj4q22 => (intro w hSw; (try dsimp only at hSw); go_simp; (try (first | with_reducible rfl | rw [if_neg (by omega)])))
                try simp only [Act.put, List.getElem_toArray, List.getElem_cons_succ, List.getElem_cons_zero, List.setIfInBounds_toArray, List.set_cons_zero, List.set_cons_succ]
                refine Held.only (k := 23) (i := 23) rdyj4q_23 (by kernel_rfl) rfl (by kernel_rfl) (fun K hK => ?_)
                go_simp
                go_at_call 39
                with_reducible refine (re_ (EmptyI_calls c' d' e' f' g' _) (ret_bool HM2.out)).mono ?_
                rintro e w11 ⟨rfl, hbx⟩
                replace u0 := cell_below hbx u0
                replace u1 := cell_below hbx u1
                replace u2 := cell_below hbx u2
                replace u3 := cell_below hbx u3
                replace u4 := cell_below hbx u4
                replace u5 := cell_below hbx u5
                replace u6 := cell_below hbx u6
                replace k0 := cell_below hbx k0
                replace k1 := cell_below hbx k1
                replace k2_ := cell_below hbx k2_
                replace k3 := cell_below hbx k3
                replace k4 := cell_below hbx k4
                replace k5 := cell_below hbx k5
                replace k6 := cell_below hbx k6
                replace hbX := hcall hbX hbx
                replace CM := CM.below hbx
                replace D := below_call D hbx
                refine hK.out _ _ (by (try dsimp only); (exact ⟨u0, u1, u2, u3, u4, u5, u6, k0, k1, k2_, k3, k4, k5, k6⟩)) (fun hHeld => ?_)
                clear hK K
                try simp only [Act.put, List.getElem_toArray, List.getElem_cons_succ, List.getElem_cons_zero, List.setIfInBounds_toArray, List.set_cons_zero, List.set_cons_succ]
                refine Held.take (k := 24) (i := 24) (v := ?vj4q24) nosj4q okkj4q_24 sizj4q (by kernel_rfl) rfl (fun _ _ _ h => h) (Or.inl ⟨by kernel_rfl, ?hyj4q24⟩) (by assumption) ?restj4q24
                case hyj4q24 => (intro w hSw; (try dsimp only at hSw); go_simp; (try (first | with_reducible rfl | rw [if_neg (by omega)])))
                try simp only [Act.put, List.getElem_toArray, List.getElem_cons_succ, List.getElem_cons_zero, List.setIfInBounds_toArray, List.set_cons_zero, List.set_cons_succ]
                refine Held.take (k := 25) (i := 25) (v := ?vj4q25) nosj4q okkj4q_25 sizj4q (by kernel_rfl) rfl (fun _ _ _ h => h) (Or.inl ⟨by kernel_rfl, ?hyj4q25⟩) (by assumption) ?restj4q25
                case hyj4q25 => (intro w hSw; (try dsimp only at hSw); go_simp; (try (first | with_reducible rfl | rw [if_neg (by omega)])))
                try simp only [Act.put, List.getElem_toArray, List.getElem_cons_succ, List.getElem_cons_zero, List.setIfInBounds_toArray, List.set_cons_zero, List.set_cons_succ]
                refine wpAnyH_done (by kernel_rfl) ?_ _
                clear u0 u1 u2 u3 u4 u5 u6 k0 k1 k2_ k3 k4 k5 k6
                clear CM
                go_wp2
                go_ret
                rw [HF.out]
                exact ⟨rfl, D⟩
    · have hin : i = n := by omega
      subst hin
      have HF : Hid (r = true) := by
        show _ = _
        rw [← HR.out]
        refine mayRo_yes (fun o => ?_) (fun j h => HK.out j h (by have := EA.out; omega)) (fun j h => HJ.out j h (by have := EA.out; omega))
        have := HC.out o
        rwa [List.take_of_length_le (by rw [EA.out]; exact Nat.le_refl _)] at this
      clear CM
      go_wp2
      go_ret
      rw [HF.out]
      exact ⟨rfl, D⟩
end Go.Proofs.Ytpmafghknafhaaa
