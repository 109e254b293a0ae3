/-
Contracts: short events; whom an event touches.
-/
import Derived.Test.YtpmafghknafhaaaGreatStE
set_option linter.unusedVariables false
set_option linter.unusedSimpArgs false
namespace Go.Proofs.YtpmafghknafhaaaGreat
open Go.RowKit
open Sp
set_option maxHeartbeats 16000000 in
set_option maxRecDepth 100000 in
theorem Short_calls (k : Int) (u o : ByteArray) (i a p q : Int) (t : ByteArray) (w : World) (hu : u.size ≤ 9223372036854775807) (ho : o.size ≤ 9223372036854775807) (ht : t.size ≤ 9223372036854775807) :
    Calls Tryz.prog 8 #[.agg #[.int .i64 k, .string u, .string o, .int .i64 i, .int .i64 a, .int .i64 p, .int .i64 q, .string t]] w fun x w' => x = .returned (.bool (shortE ⟨k, u, o, i, (a, p, q, t)⟩)) ∧ Below w.heap.size w w' := by
  have D := below_box (w := w) (bxEv k u o i a p q t)
  obtain ⟨e0, e1, e2, e3, e4, e5, e6, e7, ez⟩ := cellsEv k u o i a p q t (heap_alloc_new w (bxEv k u o i a p q t))
  by_cases h1 : ((u.size : Nat) : Int) ≤ 40
  · by_cases h2 : ((o.size : Nat) : Int) ≤ 40
    · by_cases h3 : ((t.size : Nat) : Int) ≤ 60
      · have HF : Hid (shortE ⟨k, u, o, i, (a, p, q, t)⟩ = true) := by show _ = _; unfold shortE; simp only; rw [decide_eq_true (by omega : u.size ≤ 40), decide_eq_true (by omega : o.size ≤ 40), decide_eq_true (by omega : t.size ≤ 60)]; rfl
        go_enter Tryz.func8, Tryz.ntmps8
        go_wp2
        go_ret
        rw [HF.out]
        exact ⟨by first | rfl | (simp; done) | (simp; omega), D⟩
      · have h4 : 60 < ((t.size : Nat) : Int) := by omega
        have HF : Hid (shortE ⟨k, u, o, i, (a, p, q, t)⟩ = false) := by show _ = _; unfold shortE; simp only; rw [decide_eq_false (by omega : ¬ t.size ≤ 60), Bool.and_false, Bool.and_false]
        go_enter Tryz.func8, Tryz.ntmps8
        go_wp2
        go_ret
        rw [HF.out]
        exact ⟨by first | rfl | (simp; done) | (simp; omega), D⟩
    · have h4 : 40 < ((o.size : Nat) : Int) := by omega
      have HF : Hid (shortE ⟨k, u, o, i, (a, p, q, t)⟩ = false) := by show _ = _; unfold shortE; simp only; rw [decide_eq_false (by omega : ¬ o.size ≤ 40), Bool.false_and, Bool.and_false]
      go_enter Tryz.func8, Tryz.ntmps8
      go_wp2
      go_ret
      rw [HF.out]
      exact ⟨by first | rfl | (simp; done) | (simp; omega), D⟩
  · have h4 : 40 < ((u.size : Nat) : Int) := by omega
    have HF : Hid (shortE ⟨k, u, o, i, (a, p, q, t)⟩ = false) := by show _ = _; unfold shortE; simp only; rw [decide_eq_false (by omega : ¬ u.size ≤ 40), Bool.false_and]
    go_enter Tryz.func8, Tryz.ntmps8
    go_wp2
    go_ret
    rw [HF.out]
    exact ⟨by first | rfl | (simp; done) | (simp; omega), D⟩
theorem Short_is (k : Int) (u o : ByteArray) (i a p q : Int) (t : ByteArray) (b : Bool) (w : World) (hu : u.size ≤ 9223372036854775807) (ho : o.size ≤ 9223372036854775807) (ht : t.size ≤ 9223372036854775807) (h : Hid (shortE ⟨k, u, o, i, (a, p, q, t)⟩ = b)) :
    Calls Tryz.prog 8 #[.agg #[.int .i64 k, .string u, .string o, .int .i64 i, .int .i64 a, .int .i64 p, .int .i64 q, .string t]] w fun x w' => x = .returned (.bool b) ∧ Below w.heap.size w w' := re_ (Short_calls k u o i a p q t w hu ho ht) (ret_bool h.out)
abbrev SzEvM (l : List Evt) : Prop := ∀ e ∈ l, e.u.size ≤ 9223372036854775807 ∧ e.o.size ≤ 9223372036854775807 ∧ e.v.2.2.2.size ≤ 9223372036854775807
set_option maxHeartbeats 16000000 in
set_option maxRecDepth 100000 in
theorem Events_calls (n c : Nat) (A : Option Addr) (l : List Evt) (z : Int) (w : World) (hl : Row enEv 8 w (.slice A n c) l) (hz : SzEvM l) :
    Calls Tryz.prog 19 #[.slice A n c, .int .i64 z] w fun e w' => e = .returned (.bool (eventsT l z)) ∧ Below w.heap.size w w' := by
  have EA := Lib.hid hl.len_eq
  have hnl : n ≤ 9223372036854775807 := by rw [EA.out]; exact hl.len
  obtain ⟨r, hr⟩ : ∃ r, eventsT l z = r := ⟨_, rfl⟩
  rw [hr]
  unfold eventsT at hr
  have HR := Lib.hid hr
  have HZ := Lib.hid hz
  clear hr hz
  by_cases hm : z < (n : Int)
  · have HF : Hid (r = false) := by
      show _ = _
      rw [← HR.out, decide_eq_false (by rw [← EA.out]; omega)]; rfl
    go_enter Tryz.func19, Tryz.ntmps19
    go_wp2
    go_ret
    rw [HF.out]
    exact ⟨rfl, Below.refl _ _⟩
  · have hm' : (n : Int) ≤ z := by omega
    have HLE : Hid (decide ((l.length : Int) ≤ z) = true) := by show _ = _; rw [decide_eq_true (by rw [← EA.out]; exact hm')]
    clear hm
    go_enter Tryz.func19, Tryz.ntmps19
    go_wp2
    go_loopw [5] (fun v3 wr => ∃ i : Nat, v3 = .int .i64 i ∧ i ≤ n ∧ Below w.heap.size w wr ∧ Hid (∀ j (h : j < l.length), j < i → shortE l[j] = true)) (fun v3 _ => (n - intOf v3).toNat)
    case atStart => exact ⟨0, rfl, Nat.zero_le _, Below.refl _ _, fun j _ h => absurd h (by omega)⟩
    case round =>
      obtain ⟨i, rfl, hi, hB, HT⟩ := hrel
      by_cases hlt : i < n
      · have hil : i < l.length := by have := EA.out; omega
        obtain ⟨z1, z2, z3⟩ := HZ.out l[i] (List.getElem_mem _)
        obtain ⟨⟨k, u, o, j, a, p, q, t⟩, he⟩ : ∃ e, l[i] = e := ⟨_, rfl⟩
        rw [he] at z1 z2 z3
        simp only at z1 z2 z3
        obtain ⟨ad, rfl, c0, c1, c2, c3, c4, c5, c6, c7⟩ := rowEv (hl.below hB) i hil k u o j a p q t he
        have HE := Lib.hid he
        clear he
        have x1 : (0 : Int) ≤ (i : Int) := by omega
        have x2 : (i : Int) < (n : Int) := by omega
        obtain ⟨b, hb⟩ : ∃ b, shortE ⟨k, u, o, j, (a, p, q, t)⟩ = b := ⟨_, rfl⟩
        have HS := Lib.hid hb
        clear hb
        cases b with
        | true =>
          have HN : Hid (∀ j (h : j < l.length), j < i + 1 → shortE l[j] = true) := fun j' h hj => by
            rcases Nat.lt_or_ge j' i with h' | h'
            · exact HT.out j' h h'
            · obtain rfl : j' = i := by omega
              rw [HE.out]; exact HS.out
          go_wp2_with fail
          with_reducible refine (Short_is k u o j a p q t true _ z1 z2 z3 HS).mono ?_
          rintro e w1 ⟨rfl, b1⟩
          have hB1 := below_call hB b1
          clear c0 c1 c2 c3 c4 c5 c6 c7 hB
          go_wp2
          exact ⟨⟨i + 1, by go_num, by omega, hB1, HN⟩, by simp [intOf]; omega⟩
        | false =>
          have HF : Hid (r = false) := by
            show _ = _
            rw [← HR.out, Bool.and_eq_false_iff]
            right
            rw [List.all_eq_false]
            refine ⟨l[i], List.getElem_mem _, ?_⟩
            rw [HE.out, HS.out]
            decide
          go_wp2_with fail
          with_reducible refine (Short_is k u o j a p q t false _ z1 z2 z3 HS).mono ?_
          rintro e w1 ⟨rfl, b1⟩
          have hB1 := below_call hB b1
          clear c0 c1 c2 c3 c4 c5 c6 c7 hB
          go_wp2
          go_ret
          rw [HF.out]
          exact ⟨rfl, hB1⟩
      · have hin : i = n := by omega
        have HF : Hid (r = true) := by
          show _ = _
          rw [← HR.out, HLE.out, Bool.true_and, List.all_eq_true]
          intro e he
          obtain ⟨j, hj, rfl⟩ := List.getElem_of_mem he
          exact HT.out j hj (by have := EA.out; omega)
        go_wp2
        go_ret
        rw [HF.out]
        exact ⟨rfl, hB⟩
theorem Events_is (n c : Nat) (A : Option Addr) (l : List Evt) (z : Int) (b : Bool) (w : World) (hl : Row enEv 8 w (.slice A n c) l) (hz : SzEvM l) (h : Hid (eventsT l z = b)) :
    Calls Tryz.prog 19 #[.slice A n c, .int .i64 z] w fun e w' => e = .returned (.bool b) ∧ Below w.heap.size w w' := re_ (Events_calls n c A l z w hl hz) (ret_bool h.out)
namespace Sp
theorem mergeS_two (u o : ByteArray) : mergeS [o, u] [] = mergeS [u] [o] :=
  mergeS_eq _ _ _ (mergeS_sorted _ _) fun x => by rw [mergeS_mem]; simp only [List.mem_cons, List.not_mem_nil, or_false]; exact Or.comm
theorem mergeS_one (u : ByteArray) : mergeS [u] [] = [u] := mergeS_eq _ _ _ (List.pairwise_singleton _ _) fun x => by simp
end Sp
set_option maxHeartbeats 16000000 in
set_option maxRecDepth 100000 in
theorem Touch_is (k : Int) (u o : ByteArray) (i a p q : Int) (t : ByteArray) (r : List ByteArray) (w : World) (h : Hid (touchT ⟨k, u, o, i, (a, p, q, t)⟩ = r)) :
    Calls Tryz.prog 17 #[.agg #[.int .i64 k, .string u, .string o, .int .i64 i, .int .i64 a, .int .i64 p, .int .i64 q, .string t]] w fun x w' => ∃ v, x = .returned v ∧ Row enS 1 w' v r ∧ Below w.heap.size w w' := by
  have D := below_box (w := w) (bxEv k u o i a p q t)
  have hE0 := heap_alloc_new w (bxEv k u o i a p q t)
  have h0 := h.out
  unfold touchT at h0
  simp only at h0
  clear h
  obtain ⟨b, hb⟩ : ∃ b, decide (1 ≤ k ∧ k ≤ 6) = b := ⟨_, rfl⟩
  have HK := Lib.hid hb
  obtain ⟨e0, e1, e2, e3, e4, e5, e6, e7, ez⟩ := cellsEv k u o i a p q t hE0
  have hN : Own enS 1 9 (w.alloc (bxEv k u o i a p q t)) (w.alloc (bxEv k u o i a p q t)).heap.size (.slice none 0 0) [] := Own.nil _ _ _ _ _
  cases b with
  | true =>
    rw [if_pos (of_decide_eq_true hb)] at h0
    have HF : Hid (mergeS [o, u] [] = r) := by show _ = _; rw [mergeS_two]; exact h0
    clear h0 hb
    go_enter Tryz.func17, Tryz.ntmps17
    go_wp2_with fail
    with_reducible refine (between_is k true _ HK).mono ?_
    rintro x w1 ⟨rfl, b1⟩
    have hO1 := hN.below b1
    have hB1 := b1
    clear e0 e1 e2 e3 e4 e5 e6 e7 ez
    obtain ⟨e0, e1, e2, e3, e4, e5, e6, e7, ez⟩ := cellsEv k u o i a p q t (hcall hE0 b1)
    go_wp2_with (first | (at_builtin; refine Own.append (w0 := (w.alloc (bxEv k u o i a p q t))) (w.alloc (bxEv k u o i a p q t)).heap.size rfl (.tmp 15) (.tmp 18) 38 9 (.string ⟨#[]⟩) 1 16 rfl Tryz.underlying38 info_str rfl (by decide) _ [] o [.string o] rfl rfl rfl rfl (enS_one _) hO1 hB1 hB1.size (by simp only [List.length_cons, List.length_nil]; omega) (by simp only [List.length_cons, List.length_nil]; omega) ?_; intro v2 w2 hO2 hB2 _ _; obtain ⟨d0, d1, d2, d3, d4, d5, d6, d7, dz⟩ := cellsEv k u o i a p q t (hcall hE0 hB2)) | (at_builtin; refine Own.append (w0 := (w.alloc (bxEv k u o i a p q t))) (w.alloc (bxEv k u o i a p q t)).heap.size rfl (.tmp 20) (.tmp 23) 38 9 (.string ⟨#[]⟩) 1 16 rfl Tryz.underlying38 info_str rfl (by decide) _ [o] u [.string u] rfl rfl rfl rfl (enS_one _) hO2 hB2 hB2.size (by simp only [List.length_cons, List.length_nil]; omega) (by simp only [List.length_cons, List.length_nil]; omega) ?_; intro v3 w3 hO3 hB3 _ _; obtain ⟨A3, c3, rfl, _⟩ := hO3.slice))
    refine (Merge_calls 2 c3 0 0 A3 none [o, u] [] _ hO3.row (Row.nil _ _ _) (by omega) (by omega)).mono ?_
    rintro e w4 ⟨v4, rfl, hv4, b4⟩
    go_wp2
    go_ret
    rw [← HF.out]
    exact ⟨_, rfl, hv4, below_call (below_call D hB3) b4⟩
  | false =>
    rw [if_neg (of_decide_eq_false hb)] at h0
    by_cases h7 : k = 7
    · rw [if_pos (.inl h7)] at h0
      have k7 : (k == 7) = true := by simpa using h7
      have HF : Hid (mergeS [u] [] = r) := by show _ = _; rw [mergeS_one]; exact h0
      clear h0 hb h7
      go_enter Tryz.func17, Tryz.ntmps17
      go_wp2_with fail
      with_reducible refine (between_is k false _ HK).mono ?_
      rintro x w1 ⟨rfl, b1⟩
      have hO1 := hN.below b1
      have hB1 := b1
      clear e0 e1 e2 e3 e4 e5 e6 e7 ez
      obtain ⟨e0, e1, e2, e3, e4, e5, e6, e7, ez⟩ := cellsEv k u o i a p q t (hcall hE0 b1)
      go_wp2_with ((at_builtin; refine Own.append (w0 := (w.alloc (bxEv k u o i a p q t))) (w.alloc (bxEv k u o i a p q t)).heap.size rfl (.tmp 20) (.tmp 23) 38 9 (.string ⟨#[]⟩) 1 16 rfl Tryz.underlying38 info_str rfl (by decide) _ [] u [.string u] rfl rfl rfl rfl (enS_one _) hO1 hB1 hB1.size (by simp only [List.length_cons, List.length_nil]; omega) (by simp only [List.length_cons, List.length_nil]; omega) ?_; intro v3 w3 hO3 hB3 _ _; obtain ⟨A3, c3, rfl, _⟩ := hO3.slice))
      refine (Merge_calls 1 c3 0 0 A3 none [u] [] _ hO3.row (Row.nil _ _ _) (by omega) (by omega)).mono ?_
      rintro e w4 ⟨v4, rfl, hv4, b4⟩
      go_wp2
      go_ret
      rw [← HF.out]
      exact ⟨_, rfl, hv4, below_call (below_call D hB3) b4⟩
    · have k7 : (k == 7) = false := by simpa using h7
      by_cases h8 : k = 8
      · rw [if_pos (.inr h8)] at h0
        have k8 : (k == 8) = true := by simpa using h8
        have HF : Hid (mergeS [u] [] = r) := by show _ = _; rw [mergeS_one]; exact h0
        clear h0 hb h7 h8
        go_enter Tryz.func17, Tryz.ntmps17
        go_wp2_with fail
        with_reducible refine (between_is k false _ HK).mono ?_
        rintro x w1 ⟨rfl, b1⟩
        have hO1 := hN.below b1
        have hB1 := b1
        clear e0 e1 e2 e3 e4 e5 e6 e7 ez
        obtain ⟨e0, e1, e2, e3, e4, e5, e6, e7, ez⟩ := cellsEv k u o i a p q t (hcall hE0 b1)
        go_wp2_with ((at_builtin; refine Own.append (w0 := (w.alloc (bxEv k u o i a p q t))) (w.alloc (bxEv k u o i a p q t)).heap.size rfl (.tmp 20) (.tmp 23) 38 9 (.string ⟨#[]⟩) 1 16 rfl Tryz.underlying38 info_str rfl (by decide) _ [] u [.string u] rfl rfl rfl rfl (enS_one _) hO1 hB1 hB1.size (by simp only [List.length_cons, List.length_nil]; omega) (by simp only [List.length_cons, List.length_nil]; omega) ?_; intro v3 w3 hO3 hB3 _ _; obtain ⟨A3, c3, rfl, _⟩ := hO3.slice))
        refine (Merge_calls 1 c3 0 0 A3 none [u] [] _ hO3.row (Row.nil _ _ _) (by omega) (by omega)).mono ?_
        rintro e w4 ⟨v4, rfl, hv4, b4⟩
        go_wp2
        go_ret
        rw [← HF.out]
        exact ⟨_, rfl, hv4, below_call (below_call D hB3) b4⟩
      · rw [if_neg (fun h => h.elim h7 h8)] at h0
        have k8 : (k == 8) = false := by simpa using h8
        have HF : Hid (mergeS [] [] = r) := by show _ = _; rw [← h0]; rfl
        clear h0 hb h7 h8
        go_enter Tryz.func17, Tryz.ntmps17
        go_wp2_with fail
        with_reducible refine (between_is k false _ HK).mono ?_
        rintro x w1 ⟨rfl, b1⟩
        have hB1 := b1
        clear e0 e1 e2 e3 e4 e5 e6 e7 ez
        obtain ⟨e0, e1, e2, e3, e4, e5, e6, e7, ez⟩ := cellsEv k u o i a p q t (hcall hE0 b1)
        go_wp2_with fail
        refine (Merge_calls 0 0 0 0 none none [] [] _ (Row.nil _ _ _) (Row.nil _ _ _) (by omega) (by omega)).mono ?_
        rintro e w4 ⟨v4, rfl, hv4, b4⟩
        go_wp2
        go_ret
        rw [← HF.out]
        exact ⟨_, rfl, hv4, below_call (below_call D hB1) b4⟩
end Go.Proofs.YtpmafghknafhaaaGreat
