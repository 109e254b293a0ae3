/-
Contracts: the sessions of a user, and whose there are.
-/
import Derived.Test.YtcopiimflloooaaSesE
import Derived.Test.YtcopiimflloooaaMergeB
import Derived.Test.YtcopiimflloooaaRefList2
set_option linter.unusedVariables false
set_option linter.unusedSimpArgs false
namespace Go.Proofs.Ytcopiimflloooaa
open Go.RowKit
open Sp
set_option maxHeartbeats 8000000 in
set_option maxRecDepth 100000 in
theorem Of9_calls (n c : Nat) (A : Option Addr) (l : List Se) (q : ByteArray) (w : World) (hl : Row enSe 6 w (.slice A n c) l) (hn : n ≤ 100000) :
    Calls Try.prog 20 #[.slice A n c, .string q] w fun e w' => ∃ v, e = .returned v ∧ Own enSe 6 34 w' w.heap.size v (l.filter (fun s => decide (s.u = q))) ∧ Below w.heap.size w w' := by
  have EA := Lib.hid hl.len_eq
  go_enter Try.func20, Try.ntmps20
  go_wp2
  go_loopw [5, 10] (fun vo vc wr => ∃ (i : Nat) (ys : List Se), vc = .int .i64 i ∧ i ≤ n ∧ ys.length ≤ i ∧ Hid (((l.take i).filter (fun s => decide (s.u = q))) = ys) ∧ Own enSe 6 34 wr w.heap.size vo ys ∧ Below w.heap.size w wr) (fun _ vc _ => (n - intOf vc).toNat)
  case atStart => exact ⟨0, [], rfl, Nat.zero_le _, Nat.le_refl _, rfl, Own.nil _ _ _ _ _, Below.refl _ _⟩
  case round =>
    obtain ⟨i, ys, rfl, hi, hys, HT, hO, hB⟩ := hrel
    by_cases hlt : i < n
    · have hil : i < l.length := by have := EA.out; omega
      obtain ⟨⟨a_, b_, c_, d_, e_, f_⟩, he⟩ : ∃ e, l[i] = e := ⟨_, rfl⟩
      obtain ⟨ad, rfl, c0, c1, c2, c3, c4, c5⟩ := rowSe (hl.below hB) i hil a_ b_ c_ d_ e_ f_ he
      have HE := Lib.hid he
      clear he
      by_cases hq : a_ = q
      · replace hq := hq.symm
        subst hq
        have HT2 : Hid (((l.take (i + 1)).filter (fun s => decide (s.u = q))) = ys ++ [⟨q, b_, c_, d_, e_, f_⟩]) := by
          show _ = _
          rw [List.take_succ_eq_append_getElem hil, HE.out, List.filter_append, HT.out]
          congr 1; simp
        have hO1 := hO.alloc (bxSe q b_ c_ d_ e_ f_)
        have hB1 := below_alloc0 hB (bxSe q b_ c_ d_ e_ f_)
        have HZ1 : Hid ((wr.alloc (bxSe q b_ c_ d_ e_ f_)).heap.size = wr.heap.size + 1) := size_alloc _ _
        go_wp2_with (at_builtin; refine Own.append (w0 := w) w.heap.size rfl (.tmp 18) (.tmp 20) 22 34 zvSe 6 64 rfl Try.underlying22 infoSe rfl (by decide) _ ys ⟨q, b_, c_, d_, e_, f_⟩ (enSe ⟨q, b_, c_, d_, e_, f_⟩) rfl (by rw [HZ1.out]; rfl) rfl rfl (enSe_one _) hO1 hB1 hB1.size (by omega) (by omega) ?_; intro v2 w2 hO2 hB2 _ _)
        exact ⟨⟨i + 1, ys ++ [⟨q, b_, c_, d_, e_, f_⟩], by go_num, by omega, by rw [List.length_append]; simp only [List.length_cons, List.length_nil]; omega, HT2, hO2, hB2⟩, by simp [intOf]; omega⟩
      · have hne : ¬ a_ = q := hq
        have hne2 : (a_.toList == q.toList) = false := by simpa [toList_inj'] using hne
        have hne3 : ¬ a_.toList = q.toList := by simpa [toList_inj'] using hne
        clear hq
        have HT2 : Hid (((l.take (i + 1)).filter (fun s => decide (s.u = q))) = ys) := by
          show _ = _
          rw [List.take_succ_eq_append_getElem hil, HE.out, List.filter_append, HT.out]
          simp [hne]
        have hO1 := hO.alloc (bxSe a_ b_ c_ d_ e_ f_)
        have hB1 := below_alloc0 hB (bxSe a_ b_ c_ d_ e_ f_)
        go_wp2
        exact ⟨⟨i + 1, ys, by go_num, by omega, by omega, HT2, hO1, hB1⟩, by simp [intOf]; omega⟩
    · have hin : i = n := by omega
      subst hin
      have HF : Hid ((l.filter (fun s => decide (s.u = q))) = ys) := by
        show _ = _
        have := HT.out
        rwa [List.take_of_length_le (by rw [EA.out]; exact Nat.le_refl _)] at this
      go_wp2
      go_ret
      rw [HF.out]
      exact ⟨_, rfl, hO, hB⟩
set_option maxHeartbeats 8000000 in
set_option maxRecDepth 100000 in
theorem refOf9_calls (n c : Nat) (A : Option Addr) (l : List Se) (q : ByteArray) (w : World) (hl : Row enSe 6 w (.slice A n c) l) (hn : n ≤ 100000) :
    Calls Try.prog 21 #[.slice A n c, .string q] w fun e w' => ∃ v, e = .returned v ∧ Own enSe 6 34 w' w.heap.size v (l.filter (fun s => decide (s.u = q))) ∧ Below w.heap.size w w' := by
  have EA := Lib.hid hl.len_eq
  go_enter Try.func21, Try.ntmps21
  go_wp2
  go_loopw [5, 6] (fun vo vc wr => ∃ (i : Nat) (ys : List Se), vc = .int .i64 i ∧ i ≤ n ∧ ys.length ≤ i ∧ Hid (((l.take i).filter (fun s => decide (s.u = q))) = ys) ∧ Own enSe 6 34 wr w.heap.size vo ys ∧ Below w.heap.size w wr) (fun _ vc _ => (n - intOf vc).toNat)
  case atStart => exact ⟨0, [], rfl, Nat.zero_le _, Nat.le_refl _, rfl, Own.nil _ _ _ _ _, Below.refl _ _⟩
  case round =>
    obtain ⟨i, ys, rfl, hi, hys, HT, hO, hB⟩ := hrel
    by_cases hlt : i < n
    · have hil : i < l.length := by have := EA.out; omega
      obtain ⟨⟨a_, b_, c_, d_, e_, f_⟩, he⟩ : ∃ e, l[i] = e := ⟨_, rfl⟩
      obtain ⟨ad, rfl, c0, c1, c2, c3, c4, c5⟩ := rowSe (hl.below hB) i hil a_ b_ c_ d_ e_ f_ he
      have HE := Lib.hid he
      clear he
      by_cases hq : a_ = q
      · replace hq := hq.symm
        subst hq
        have HT2 : Hid (((l.take (i + 1)).filter (fun s => decide (s.u = q))) = ys ++ [⟨q, b_, c_, d_, e_, f_⟩]) := by
          show _ = _
          rw [List.take_succ_eq_append_getElem hil, HE.out, List.filter_append, HT.out]
          congr 1; simp
        go_wp2_with (at_builtin; refine Own.append (w0 := w) w.heap.size rfl (.tmp 20) (.tmp 25) 22 34 zvSe 6 64 rfl Try.underlying22 infoSe rfl (by decide) _ ys ⟨q, b_, c_, d_, e_, f_⟩ (enSe ⟨q, b_, c_, d_, e_, f_⟩) rfl rfl rfl rfl (enSe_one _) hO hB hB.size (by omega) (by omega) ?_; intro v2 w2 hO2 hB2 _ _)
        exact ⟨⟨i + 1, ys ++ [⟨q, b_, c_, d_, e_, f_⟩], by go_num, by omega, by rw [List.length_append]; simp only [List.length_cons, List.length_nil]; omega, HT2, hO2, hB2⟩, by simp [intOf]; omega⟩
      · have hne : ¬ a_ = q := hq
        have hne2 : (a_.toList == q.toList) = false := by simpa [toList_inj'] using hne
        have hne3 : ¬ a_.toList = q.toList := by simpa [toList_inj'] using hne
        clear hq
        have HT2 : Hid (((l.take (i + 1)).filter (fun s => decide (s.u = q))) = ys) := by
          show _ = _
          rw [List.take_succ_eq_append_getElem hil, HE.out, List.filter_append, HT.out]
          simp [hne]
        go_wp2
        exact ⟨⟨i + 1, ys, by go_num, by omega, by omega, HT2, hO, hB⟩, by simp [intOf]; omega⟩
    · have hin : i = n := by omega
      subst hin
      have HF : Hid ((l.filter (fun s => decide (s.u = q))) = ys) := by
        show _ = _
        have := HT.out
        rwa [List.take_of_length_le (by rw [EA.out]; exact Nat.le_refl _)] at this
      go_wp2
      go_ret
      rw [HF.out]
      exact ⟨_, rfl, hO, hB⟩
set_option maxHeartbeats 8000000 in
set_option maxRecDepth 100000 in
theorem Users9_calls (n c : Nat) (A : Option Addr) (l : List Se)  (w : World) (hl : Row enSe 6 w (.slice A n c) l) (hn : n ≤ 100000) :
    Calls Try.prog 23 #[.slice A n c] w fun e w' => ∃ v, e = .returned v ∧ Row enS 1 w' v (usersSe l) ∧ Below w.heap.size w w' := by
  have EA := Lib.hid hl.len_eq
  go_enter Try.func23, Try.ntmps23
  go_wp2
  go_loopw [3, 8] (fun vo vc wr => ∃ (i : Nat) (ys : List ByteArray), vc = .int .i64 i ∧ i ≤ n ∧ ys.length ≤ i ∧ Hid (((l.take i).map Se.u) = ys) ∧ Own enS 1 9 wr w.heap.size vo ys ∧ Below w.heap.size w wr) (fun _ vc _ => (n - intOf vc).toNat)
  case atStart => exact ⟨0, [], rfl, Nat.zero_le _, Nat.le_refl _, rfl, Own.nil _ _ _ _ _, Below.refl _ _⟩
  case round =>
    obtain ⟨i, ys, rfl, hi, hys, HT, hO, hB⟩ := hrel
    by_cases hlt : i < n
    · have hil : i < l.length := by have := EA.out; omega
      obtain ⟨⟨a_, b_, c_, d_, e_, f_⟩, he⟩ : ∃ e, l[i] = e := ⟨_, rfl⟩
      obtain ⟨ad, rfl, c0, c1, c2, c3, c4, c5⟩ := rowSe (hl.below hB) i hil a_ b_ c_ d_ e_ f_ he
      have HE := Lib.hid he
      clear he
      have HT2 : Hid (((l.take (i + 1)).map Se.u) = ys ++ [a_]) := by
        show _ = _
        rw [List.take_succ_eq_append_getElem hil, HE.out, List.map_append, HT.out]
        rfl
      have hO1 := hO.alloc (bxSe a_ b_ c_ d_ e_ f_)
      have hB1 := below_alloc0 hB (bxSe a_ b_ c_ d_ e_ f_)
      have HZ1 : Hid ((wr.alloc (bxSe a_ b_ c_ d_ e_ f_)).heap.size = wr.heap.size + 1) := size_alloc _ _
      go_wp2_with (at_builtin; refine Own.append (w0 := w) w.heap.size rfl (.tmp 12) (.tmp 15) 28 9 (.string ⟨#[]⟩) 1 16 rfl Try.underlying28 info_str rfl (by decide) _ ys a_ [.string a_] rfl (by rw [HZ1.out]; rfl) rfl rfl (enS_one _) hO1 hB1 hB1.size (by omega) (by omega) ?_; intro v2 w2 hO2 hB2 _ _)
      exact ⟨⟨i + 1, ys ++ [a_], by go_num, by omega, by rw [List.length_append]; simp only [List.length_cons, List.length_nil]; omega, HT2, hO2, hB2⟩, by simp [intOf]; omega⟩
    · have hin : i = n := by omega
      subst hin
      have HF : Hid ((l.map Se.u) = ys) := by
        show _ = _
        have := HT.out
        rwa [List.take_of_length_le (by rw [EA.out]; exact Nat.le_refl _)] at this
      obtain ⟨A2, c2, rfl, _⟩ := hO.slice
      go_wp2_with fail
      refine (Merge_calls ys.length c2 0 0 A2 none ys [] _ hO.row (Row.nil _ _ _) (by omega) (by omega)).mono ?_
      rintro e w2 ⟨v2, rfl, hv2, b2⟩
      go_wp2
      go_ret
      refine ⟨_, rfl, ?_, below_call hB b2⟩
      unfold usersSe
      rw [HF.out]
      exact hv2
set_option maxHeartbeats 8000000 in
set_option maxRecDepth 100000 in
theorem refUsers9_calls (n c : Nat) (A : Option Addr) (l : List Se)  (w : World) (hl : Row enSe 6 w (.slice A n c) l) (hn : n ≤ 100000) :
    Calls Try.prog 24 #[.slice A n c] w fun e w' => ∃ v, e = .returned v ∧ Row enS 1 w' v (usersSe l) ∧ Below w.heap.size w w' := by
  have EA := Lib.hid hl.len_eq
  go_enter Try.func24, Try.ntmps24
  go_wp2
  go_loopw [3, 4] (fun vo vc wr => ∃ (i : Nat) (ys : List ByteArray), vc = .int .i64 i ∧ i ≤ n ∧ ys.length ≤ i ∧ Hid (((l.take i).map Se.u) = ys) ∧ Own enS 1 9 wr w.heap.size vo ys ∧ Below w.heap.size w wr) (fun _ vc _ => (n - intOf vc).toNat)
  case atStart => exact ⟨0, [], rfl, Nat.zero_le _, Nat.le_refl _, rfl, Own.nil _ _ _ _ _, Below.refl _ _⟩
  case round =>
    obtain ⟨i, ys, rfl, hi, hys, HT, hO, hB⟩ := hrel
    by_cases hlt : i < n
    · have hil : i < l.length := by have := EA.out; omega
      obtain ⟨⟨a_, b_, c_, d_, e_, f_⟩, he⟩ : ∃ e, l[i] = e := ⟨_, rfl⟩
      obtain ⟨ad, rfl, c0, c1, c2, c3, c4, c5⟩ := rowSe (hl.below hB) i hil a_ b_ c_ d_ e_ f_ he
      have HE := Lib.hid he
      clear he
      have HT2 : Hid (((l.take (i + 1)).map Se.u) = ys ++ [a_]) := by
        show _ = _
        rw [List.take_succ_eq_append_getElem hil, HE.out, List.map_append, HT.out]
        rfl
      go_wp2_with (at_builtin; refine Own.append (w0 := w) w.heap.size rfl (.tmp 11) (.tmp 17) 28 9 (.string ⟨#[]⟩) 1 16 rfl Try.underlying28 info_str rfl (by decide) _ ys a_ [.string a_] rfl rfl rfl rfl (enS_one _) hO hB hB.size (by omega) (by omega) ?_; intro v2 w2 hO2 hB2 _ _)
      exact ⟨⟨i + 1, ys ++ [a_], by go_num, by omega, by rw [List.length_append]; simp only [List.length_cons, List.length_nil]; omega, HT2, hO2, hB2⟩, by simp [intOf]; omega⟩
    · have hin : i = n := by omega
      subst hin
      have HF : Hid ((l.map Se.u) = ys) := by
        show _ = _
        have := HT.out
        rwa [List.take_of_length_le (by rw [EA.out]; exact Nat.le_refl _)] at this
      obtain ⟨A2, c2, rfl, _⟩ := hO.slice
      go_wp2_with fail
      refine (refMerge_calls ys.length c2 0 0 A2 none ys [] _ hO.row (Row.nil _ _ _) (by omega) (by omega)).mono ?_
      rintro e w2 ⟨v2, rfl, hv2, b2⟩
      go_wp2
      go_ret
      refine ⟨_, rfl, ?_, below_call hB b2⟩
      unfold usersSe
      rw [HF.out]
      exact hv2
end Go.Proofs.Ytcopiimflloooaa
