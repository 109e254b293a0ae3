/-
Contracts: few entries; who watches a contact.
-/
import Derived.Test.YtpmafghknafhaaaRosG
set_option linter.unusedVariables false
set_option linter.unusedSimpArgs false
namespace Go.Proofs.Ytpmafghknafhaaa
open Go.RowKit
open Sp
set_option maxHeartbeats 8000000 in
set_option maxRecDepth 100000 in
theorem few8_calls (n c : Nat) (A : Option Addr) (l : List En) (w : World) (hl : Row enEn 7 w (.slice A n c) l) (hz : ∀ s ∈ l, s.o.size ≤ 9223372036854775807 ∧ s.c.size ≤ 9223372036854775807) :
    Calls Try.prog 10 #[.slice A n c] w fun e w' => e = .returned (.bool (fewRo l)) ∧ Below w.heap.size w w' := by
  have EA := Lib.hid hl.len_eq
  have hnl : n ≤ 9223372036854775807 := by rw [EA.out]; exact hl.len
  obtain ⟨r, hr⟩ : ∃ r, fewRo l = r := ⟨_, rfl⟩
  rw [hr]
  unfold fewRo at hr
  have HR := Lib.hid hr
  have HZ := Lib.hid hz
  clear hr hz
  by_cases hm : 80 < (n : Int)
  · have HF : Hid (r = false) := by
      show _ = _
      rw [← HR.out, decide_eq_false (by rw [← EA.out]; omega)]; rfl
    go_enter Try.func10, Try.ntmps10
    go_wp2
    go_ret
    rw [HF.out]
    exact ⟨rfl, Below.refl _ _⟩
  · have hm' : (n : Int) ≤ 80 := by omega
    clear hm
    go_enter Try.func10, Try.ntmps10
    go_wp2
    go_loopw [3] (fun v3 wr => ∃ i : Nat, v3 = .int .i64 i ∧ i ≤ n ∧ Below w.heap.size w wr ∧ Hid (∀ j (h : j < l.length), j < i → (decide (l[j].o.size ≤ 40) && decide (l[j].c.size ≤ 40)) = true)) (fun v3 _ => (n - intOf v3).toNat)
    case atStart => exact ⟨0, rfl, Nat.zero_le _, Below.refl _ _, fun j _ h => absurd h (by omega)⟩
    case round =>
      obtain ⟨i, rfl, hi, hB, HT⟩ := hrel
      by_cases hlt : i < n
      · have hil : i < l.length := by have := EA.out; omega
        obtain ⟨z1, z2⟩ := HZ.out l[i] (List.getElem_mem _)
        obtain ⟨⟨a_, b_, c_, d_, e_, f_, g_⟩, he⟩ : ∃ e, l[i] = e := ⟨_, rfl⟩
        rw [he] at z1 z2
        simp only at z1 z2
        obtain ⟨ad, rfl, c0, c1, c2, c3, c4, c5, c6⟩ := rowEn (hl.below hB) i hil a_ b_ c_ d_ e_ f_ g_ he
        have HE := Lib.hid he
        clear he
        by_cases hq : a_.size ≤ 40 ∧ b_.size ≤ 40
        · have HN : Hid (∀ j (h : j < l.length), j < i + 1 → (decide (l[j].o.size ≤ 40) && decide (l[j].c.size ≤ 40)) = true) := fun j h hj => by
            rcases Nat.lt_or_ge j i with h' | h'
            · exact HT.out j h h'
            · obtain rfl : j = i := by omega
              rw [HE.out]
              simp only
              rw [decide_eq_true hq.1, decide_eq_true hq.2]; rfl
          have h1 : ((a_.size : Nat) : Int) ≤ 40 := by omega
          have h2 : ((b_.size : Nat) : Int) ≤ 40 := by omega
          clear hq
          go_wp2
          exact ⟨⟨i + 1, by go_num, by omega, hB, HN⟩, by simp [intOf]; omega⟩
        · have HF : Hid (r = false) := by
            show _ = _
            rw [← HR.out, Bool.and_eq_false_iff]
            right
            rw [List.all_eq_false]
            refine ⟨l[i], List.getElem_mem _, ?_⟩
            rw [HE.out]
            simp only [Bool.and_eq_true, decide_eq_true_eq]
            exact hq
          by_cases h1 : ((a_.size : Nat) : Int) ≤ 40
          · have h2 : 40 < ((b_.size : Nat) : Int) := by omega
            clear hq
            go_wp2
            go_ret
            rw [HF.out]
            exact ⟨rfl, hB⟩
          · have h2 : 40 < ((a_.size : Nat) : Int) := by omega
            clear hq h1
            go_wp2
            go_ret
            rw [HF.out]
            exact ⟨rfl, hB⟩
      · have hin : i = n := by omega
        subst hin
        have HF : Hid (r = true) := by
          show _ = _
          rw [← HR.out, Bool.and_eq_true]
          refine ⟨decide_eq_true (by rw [← EA.out]; omega), ?_⟩
          rw [List.all_eq_true]
          intro e he
          obtain ⟨j, hj, rfl⟩ := List.getElem_of_mem he
          exact HT.out j hj (by rw [EA.out]; exact hj)
        go_wp2
        go_ret
        rw [HF.out]
        exact ⟨rfl, hB⟩
set_option maxHeartbeats 8000000 in
set_option maxRecDepth 100000 in
theorem WatchRo_calls (n c : Nat) (A : Option Addr) (l : List En) (q : ByteArray) (w : World) (hl : Row enEn 7 w (.slice A n c) l) (hn : n ≤ 100000) :
    Calls Try.prog 21 #[.slice A n c, .string q] w fun e w' => ∃ v, e = .returned v ∧ Row enS 1 w' v (watchRo l q) ∧ Below w.heap.size w w' := by
  have EA := Lib.hid hl.len_eq
  go_enter Try.func21, Try.ntmps21
  go_wp2
  go_loopw [5, 10] (fun vo vc wr => ∃ (i : Nat) (ys : List ByteArray), vc = .int .i64 i ∧ i ≤ n ∧ ys.length ≤ i ∧ Hid (((l.take i).filter (fun x : En => decide (x.c = q) && seesRo l x.o q)).map En.o = ys) ∧ Own enS 1 9 wr w.heap.size vo ys ∧ Below w.heap.size w wr) (fun _ vc _ => (n - intOf vc).toNat)
  case atStart => exact ⟨0, [], rfl, Nat.zero_le _, Nat.le_refl _, rfl, Own.nil _ _ _ _ _, Below.refl _ _⟩
  case round =>
    obtain ⟨i, ys, rfl, hi, hys, HT, hO, hB⟩ := hrel
    by_cases hlt : i < n
    · have hil : i < l.length := by have := EA.out; omega
      obtain ⟨⟨a_, b_, c_, d_, e_, f_, g_⟩, he⟩ : ∃ e, l[i] = e := ⟨_, rfl⟩
      obtain ⟨ad, rfl, c0, c1, c2, c3, c4, c5, c6⟩ := rowEn (hl.below hB) i hil a_ b_ c_ d_ e_ f_ g_ he
      have htk : ((l.take (i + 1)).filter (fun x : En => decide (x.c = q) && seesRo l x.o q)).map En.o = ys ++ (if decide (b_ = q) && seesRo l a_ q then [a_] else []) := by
        rw [List.take_succ_eq_append_getElem hil, List.filter_append, List.map_append, HT.out, he, List.filter_cons]
        simp only
        split <;> rfl
      have HTK := Lib.hid htk
      clear he htk HT
      have hO1 := hO.alloc (bxEn a_ b_ c_ d_ e_ f_ g_)
      have hB1 := below_alloc0 hB (bxEn a_ b_ c_ d_ e_ f_ g_)
      obtain ⟨u0, u1, u2, u3, u4, u5, u6, uz⟩ := cellsEn a_ b_ c_ d_ e_ f_ g_ (heap_alloc_new wr (bxEn a_ b_ c_ d_ e_ f_ g_))
      by_cases hq : b_ = q
      · replace hq := hq.symm
        subst hq
        obtain ⟨bs, hbs⟩ : ∃ bs, seesRo l a_ q = bs := ⟨_, rfl⟩
        have HS := Lib.hid hbs
        clear hbs hO hB
        cases bs with
        | true =>
          have HT2 : Hid (((l.take (i + 1)).filter (fun x : En => decide (x.c = q) && seesRo l x.o q)).map En.o = ys ++ [a_]) := by
            show _ = _
            rw [HTK.out, HS.out, decide_eq_true rfl]
            rfl
          go_wp2_with fail
          with_reducible refine (re_ (SeesRo_calls n c _ l a_ q _ (hl.below hB1)) (ret_bool HS.out)).mono ?_
          rintro e w4 ⟨rfl, b4⟩
          replace hO1 := hO1.below b4
          replace hB1 := below_call hB1 b4
          replace u0 := cell_below b4 u0
          clear b4
          go_wp2_with (at_builtin; refine Own.append (w0 := w) w.heap.size rfl (.tmp 25) (.tmp 28) 29 9 (.string ⟨#[]⟩) 1 16 rfl Try.underlying29 info_str rfl (by decide) _ ys a_ [.string a_] rfl rfl rfl rfl (enS_one _) hO1 hB1 hB1.size (by omega) (by omega) ?_; intro v2 w2 hO2 hB2 _ _)
          exact ⟨⟨i + 1, ys ++ [a_], by go_num, by omega, by rw [List.length_append]; simp only [List.length_cons, List.length_nil]; omega, HT2, hO2, hB2⟩, by simp [intOf]; omega⟩
        | false =>
          have HT2 : Hid (((l.take (i + 1)).filter (fun x : En => decide (x.c = q) && seesRo l x.o q)).map En.o = ys) := by
            show _ = _
            rw [HTK.out, HS.out, decide_eq_true rfl]
            simp
          go_wp2_with fail
          with_reducible refine (re_ (SeesRo_calls n c _ l a_ q _ (hl.below hB1)) (ret_bool HS.out)).mono ?_
          rintro e w4 ⟨rfl, b4⟩
          replace hO1 := hO1.below b4
          replace hB1 := below_call hB1 b4
          replace u0 := cell_below b4 u0
          clear b4
          go_wp2
          exact ⟨⟨i + 1, ys, by go_num, by omega, by omega, HT2, hO1, hB1⟩, by simp [intOf]; omega⟩
      · have HT2 : Hid (((l.take (i + 1)).filter (fun x : En => decide (x.c = q) && seesRo l x.o q)).map En.o = ys) := by
          show _ = _
          rw [HTK.out, decide_eq_false hq]
          simp
        have hs1 : ¬ b_.toList = q.toList := by simpa [toList_inj'] using hq
        have hs2 : (b_.toList == q.toList) = false := by simpa [toList_inj'] using hq
        clear hq hO hB
        go_wp2
        exact ⟨⟨i + 1, ys, by go_num, by omega, by omega, HT2, hO1, hB1⟩, by simp [intOf]; omega⟩
    · have hin : i = n := by omega
      subst hin
      have HF : Hid ((l.filter (fun x : En => decide (x.c = q) && seesRo l x.o q)).map En.o = ys) := by
        show _ = _
        have := HT.out
        rwa [List.take_of_length_le (by rw [EA.out]; exact Nat.le_refl _)] at this
      obtain ⟨A2, c2, rfl, _⟩ := hO.slice
      go_wp2_with fail
      refine (Merge_calls ys.length c2 0 0 A2 none ys [] _ hO.row (Row.nil _ _ _) (by omega) (by omega)).mono ?_
      rintro e w2 ⟨v2, rfl, hv2, b2⟩
      go_wp2
      go_ret
      refine ⟨_, rfl, ?_, below_call hB b2⟩
      unfold watchRo
      rw [HF.out]
      exact hv2
set_option maxHeartbeats 8000000 in
set_option maxRecDepth 100000 in
theorem refWatchRo_calls (n c : Nat) (A : Option Addr) (l : List En) (q : ByteArray) (w : World) (hl : Row enEn 7 w (.slice A n c) l) (hn : n ≤ 100000) :
    Calls Try.prog 22 #[.slice A n c, .string q] w fun e w' => ∃ v, e = .returned v ∧ Row enS 1 w' v (watchRo l q) ∧ Below w.heap.size w w' := by
  have EA := Lib.hid hl.len_eq
  go_enter Try.func22, Try.ntmps22
  go_wp2
  go_loopw [5, 6] (fun vo vc wr => ∃ (i : Nat) (ys : List ByteArray), vc = .int .i64 i ∧ i ≤ n ∧ ys.length ≤ i ∧ Hid (((l.take i).filter (fun x : En => decide (x.c = q) && seesRo l x.o q)).map En.o = ys) ∧ Own enS 1 9 wr w.heap.size vo ys ∧ Below w.heap.size w wr) (fun _ vc _ => (n - intOf vc).toNat)
  case atStart => exact ⟨0, [], rfl, Nat.zero_le _, Nat.le_refl _, rfl, Own.nil _ _ _ _ _, Below.refl _ _⟩
  case round =>
    obtain ⟨i, ys, rfl, hi, hys, HT, hO, hB⟩ := hrel
    by_cases hlt : i < n
    · have hil : i < l.length := by have := EA.out; omega
      obtain ⟨⟨a_, b_, c_, d_, e_, f_, g_⟩, he⟩ : ∃ e, l[i] = e := ⟨_, rfl⟩
      obtain ⟨ad, rfl, c0, c1, c2, c3, c4, c5, c6⟩ := rowEn (hl.below hB) i hil a_ b_ c_ d_ e_ f_ g_ he
      have htk : ((l.take (i + 1)).filter (fun x : En => decide (x.c = q) && seesRo l x.o q)).map En.o = ys ++ (if decide (b_ = q) && seesRo l a_ q then [a_] else []) := by
        rw [List.take_succ_eq_append_getElem hil, List.filter_append, List.map_append, HT.out, he, List.filter_cons]
        simp only
        split <;> rfl
      have HTK := Lib.hid htk
      clear he htk HT
      have hO1 := hO
      have hB1 := hB
      by_cases hq : b_ = q
      · replace hq := hq.symm
        subst hq
        obtain ⟨bs, hbs⟩ : ∃ bs, seesRo l a_ q = bs := ⟨_, rfl⟩
        have HS := Lib.hid hbs
        clear hbs hO hB
        cases bs with
        | true =>
          have HT2 : Hid (((l.take (i + 1)).filter (fun x : En => decide (x.c = q) && seesRo l x.o q)).map En.o = ys ++ [a_]) := by
            show _ = _
            rw [HTK.out, HS.out, decide_eq_true rfl]
            rfl
          go_wp2_with fail
          with_reducible refine (re_ (refSeesRo_calls n c _ l a_ q _ (hl.below hB1)) (ret_bool HS.out)).mono ?_
          rintro e w4 ⟨rfl, b4⟩
          replace hO1 := hO1.below b4
          replace hB1 := below_call hB1 b4
          replace c0 := cell_below b4 c0
          clear b4
          go_wp2_with (at_builtin; refine Own.append (w0 := w) w.heap.size rfl (.tmp 30) (.tmp 36) 29 9 (.string ⟨#[]⟩) 1 16 rfl Try.underlying29 info_str rfl (by decide) _ ys a_ [.string a_] rfl rfl rfl rfl (enS_one _) hO1 hB1 hB1.size (by omega) (by omega) ?_; intro v2 w2 hO2 hB2 _ _)
          exact ⟨⟨i + 1, ys ++ [a_], by go_num, by omega, by rw [List.length_append]; simp only [List.length_cons, List.length_nil]; omega, HT2, hO2, hB2⟩, by simp [intOf]; omega⟩
        | false =>
          have HT2 : Hid (((l.take (i + 1)).filter (fun x : En => decide (x.c = q) && seesRo l x.o q)).map En.o = ys) := by
            show _ = _
            rw [HTK.out, HS.out, decide_eq_true rfl]
            simp
          go_wp2_with fail
          with_reducible refine (re_ (refSeesRo_calls n c _ l a_ q _ (hl.below hB1)) (ret_bool HS.out)).mono ?_
          rintro e w4 ⟨rfl, b4⟩
          replace hO1 := hO1.below b4
          replace hB1 := below_call hB1 b4
          replace c0 := cell_below b4 c0
          clear b4
          go_wp2
          exact ⟨⟨i + 1, ys, by go_num, by omega, by omega, HT2, hO1, hB1⟩, by simp [intOf]; omega⟩
      · have HT2 : Hid (((l.take (i + 1)).filter (fun x : En => decide (x.c = q) && seesRo l x.o q)).map En.o = ys) := by
          show _ = _
          rw [HTK.out, decide_eq_false hq]
          simp
        have hs1 : ¬ b_.toList = q.toList := by simpa [toList_inj'] using hq
        have hs2 : (b_.toList == q.toList) = false := by simpa [toList_inj'] using hq
        clear hq hO hB
        go_wp2
        exact ⟨⟨i + 1, ys, by go_num, by omega, by omega, HT2, hO1, hB1⟩, by simp [intOf]; omega⟩
    · have hin : i = n := by omega
      subst hin
      have HF : Hid ((l.filter (fun x : En => decide (x.c = q) && seesRo l x.o q)).map En.o = ys) := by
        show _ = _
        have := HT.out
        rwa [List.take_of_length_le (by rw [EA.out]; exact Nat.le_refl _)] at this
      obtain ⟨A2, c2, rfl, _⟩ := hO.slice
      go_wp2_with fail
      refine (refMerge_calls ys.length c2 0 0 A2 none ys [] _ hO.row (Row.nil _ _ _) (by omega) (by omega)).mono ?_
      rintro e w2 ⟨v2, rfl, hv2, b2⟩
      go_wp2
      go_ret
      refine ⟨_, rfl, ?_, below_call hB b2⟩
      unfold watchRo
      rw [HF.out]
      exact hv2
end Go.Proofs.Ytpmafghknafhaaa
