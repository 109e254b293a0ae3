/-
Contract: whether rosters may be, by the document.
-/
import Derived.Test.YtpmafghknafhaaaRosI
import Derived.Test.YtpmafghknafhaaaRosK0
set_option linter.unusedVariables false
set_option linter.unusedSimpArgs false
namespace Go.Proofs.Ytpmafghknafhaaa
open Go.RowKit
open Sp
theorem refIs_below (s : ByteArray) (b : Bool) (h : Hid (isName s = b)) (hs : s.size ≤ 140737488351232) (w : World) :
    Calls Try.prog 40 #[.string s] w fun e w' => e = .returned (.bool b) ∧ Below w.heap.size w w' := (refIs_is w s b h hs).mono fun e w' ⟨he, hw⟩ => ⟨he, hw ▸ Below.refl _ _⟩
theorem refOfLen (n c : Nat) (A : Option Addr) (l : List En) (q : ByteArray) (w : World) (hl : Row enEn 7 w (.slice A n c) l) (hn : n ≤ 100000) (m : Nat) (h : Hid ((ofRo l q).length = m)) :
    Calls Try.prog 18 #[.slice A n c, .string q] w fun e w' => (∃ A' c', e = .returned (.slice A' m c')) ∧ Below w.heap.size w w' :=
  (refOfRo_calls n c A l q w hl hn).mono fun e w' ⟨v, he, ho, hb⟩ => by
    obtain ⟨A', c', hv, _⟩ := ho.slice
    refine ⟨⟨A', c', ?_⟩, hb⟩
    rw [he, hv, ← h.out]
    rfl
set_option maxHeartbeats 32000000 in
set_option maxRecDepth 100000 in
theorem refMayRo_calls (n c : Nat) (A : Option Addr) (l : List En) (w : World) (hl : Row enEn 7 w (.slice A n c) l) (hz : ∀ s ∈ l, s.o.size ≤ 140737488351232 ∧ s.c.size ≤ 140737488351232) (hn : n ≤ 100000) :
    Calls Try.prog 13 #[.slice A n c] w fun e w' => e = .returned (.bool (mayRo l)) ∧ Below w.heap.size w w' := by
  have EA := Lib.hid hl.len_eq
  obtain ⟨r, hr⟩ : ∃ r, mayRo l = r := ⟨_, rfl⟩
  rw [hr]
  have HR := Lib.hid hr
  have HZ := Lib.hid hz
  clear hr hz
  go_enter Try.func13, Try.ntmps13
  go_wp2
  go_loopw [3] (fun v3 wr => ∃ i : Nat, v3 = .int .i64 i ∧ i ≤ n ∧ Below w.heap.size w wr ∧ Hid (∀ j (h : j < l.length), j < i → oneRo l l[j] = true) ∧ Hid (∀ j (h : j + 1 < l.length), j + 1 < i → ltRo (keyRo l[j]) (keyRo l[j + 1]) = true)) (fun v3 _ => (n - intOf v3).toNat)
  case atStart => exact ⟨0, rfl, Nat.zero_le _, Below.refl _ _, fun j _ h => absurd h (by omega), fun j _ h => absurd h (by omega)⟩
  case round =>
    obtain ⟨i, rfl, hi, D, HK, HJ⟩ := hrel
    by_cases hlt : i < n
    · have hil : i < l.length := by have := EA.out; omega
      obtain ⟨⟨a_, b_, c_, d_, e_, f_, g_⟩, he⟩ : ∃ e, l[i] = e := ⟨_, rfl⟩
      obtain ⟨z1, z2⟩ := HZ.out l[i] (List.getElem_mem _)
      rw [he] at z1 z2
      simp only at z1 z2
      obtain ⟨ad, rfl, c0, c1, c2, c3, c4, c5, c6⟩ := rowEn (hl.below D) i hil a_ b_ c_ d_ e_ f_ g_ he
      have HE := Lib.hid he
      have x3 : (0 : Int) ≤ (i : Int) := by omega
      have x4 : (i : Int) < (n : Int) := by omega
      obtain ⟨⟨c', d', e', f', g'⟩, hg1⟩ : ∃ x, getRo l b_ a_ = x := ⟨_, rfl⟩
      obtain ⟨hh, hg2⟩ : ∃ x, hasRo l b_ a_ = x := ⟨_, rfl⟩
      obtain ⟨m, hm⟩ : ∃ m, (ofRo l a_).length = m := ⟨_, rfl⟩
      have hcd : oneRo l l[i] = (isName a_ && (isName b_ && (!decide (a_ = b_) && (decide (m ≤ 16) && (hh && (fitI ⟨c_, d_, e_, f_, g_⟩ ⟨c', d', e', f', g'⟩ && !(emptyI ⟨c_, d_, e_, f_, g_⟩ && emptyI ⟨c', d', e', f', g'⟩))))))) := by
        rw [HE.out, ← hg1, ← hg2, ← hm]
        rfl
      have HCD := Lib.hid hcd
      have HG1 := Lib.hid hg1
      have HG2 := Lib.hid hg2
      have HM := Lib.hid hm
      have HGET := Lib.hid (show ∀ W : World, Row enEn 7 W (.slice (some ad) n c) l → Calls Try.prog 15 #[.slice (some ad) n c, .string b_, .string a_] W fun e w' => e = .returned (agI c' d' e' f' g') ∧ Below W.heap.size W w' from fun W h => by
        have := refGetRo_calls n c (some ad) l b_ a_ W h
        rwa [hg1] at this)
      clear he hcd hg1 hg2 hm
      have hbX := heap_alloc_new wr (bxEn a_ b_ c_ d_ e_ f_ g_)
      obtain ⟨u0, u1, u2, u3, u4, u5, u6, uz⟩ := cellsEn a_ b_ c_ d_ e_ f_ g_ hbX
      replace D := below_alloc0 D (bxEn a_ b_ c_ d_ e_ f_ g_)
      obtain ⟨n1, hn1⟩ : ∃ b, isName a_ = b := ⟨_, rfl⟩
      have HNa_ := Lib.hid hn1
      clear hn1
      cases n1 with
      | false =>
        have HF : Hid (r = false) := by
          show _ = _
          rw [← HR.out]
          exact mayRo_no_one (List.getElem_mem hil) (by rw [HCD.out, HNa_.out]; rfl)
        clear uz
        replace hbX : (wr.alloc (bxEn a_ b_ c_ d_ e_ f_ g_)).drew.heap[_]? = _ := hbX
        replace D : Below _ _ (wr.alloc (bxEn a_ b_ c_ d_ e_ f_ g_)).drew := D.drew
        go_wp2_with fail
        refine Held.start (ops := opska) (S := fun w' => w'.cell? ⟨wr.heap.size, 0, none⟩ = some (.string a_) ∧ w'.cell? ⟨wr.heap.size, 1, none⟩ = some (.string b_) ∧ w'.cell? ⟨wr.heap.size, 2, none⟩ = some (.bool c_) ∧ w'.cell? ⟨wr.heap.size, 3, none⟩ = some (.bool d_) ∧ w'.cell? ⟨wr.heap.size, 4, none⟩ = some (.bool e_) ∧ w'.cell? ⟨wr.heap.size, 5, none⟩ = some (.bool f_) ∧ w'.cell? ⟨wr.heap.size, 6, none⟩ = some (.bool g_)) ordka 39 (by kernel_rfl) sizka (by kernel_rfl) ⟨u0, u1, u2, u3, u4, u5, u6⟩ (fun hHeld => ?_)
        refine Held.take (k := 0) (i := 0) (v := ?vka0) noska okkka_0 sizka (by kernel_rfl) rfl (fun _ _ _ h => h) (Or.inl ⟨by kernel_rfl, ?hyka0⟩) (by assumption) ?restka0
        case hyka0 => (intro w hSw; (try dsimp only at hSw); go_simp; (try (first | with_reducible rfl | rw [if_neg (by omega)])))
        try simp only [Act.put, List.getElem_toArray, List.getElem_cons_succ, List.getElem_cons_zero, List.setIfInBounds_toArray, List.set_cons_zero, List.set_cons_succ]
        refine Held.take (k := 1) (i := 1) (v := ?vka1) noska okkka_1 sizka (by kernel_rfl) rfl (fun _ _ _ h => h) (Or.inl ⟨by kernel_rfl, ?hyka1⟩) (by assumption) ?restka1
        case hyka1 => (intro w hSw; (try dsimp only at hSw); go_simp; (try (first | with_reducible rfl | rw [if_neg (by omega)])))
        try simp only [Act.put, List.getElem_toArray, List.getElem_cons_succ, List.getElem_cons_zero, List.setIfInBounds_toArray, List.set_cons_zero, List.set_cons_succ]
        refine Held.only (k := 2) (i := 2) rdyka_2 (by kernel_rfl) rfl (by kernel_rfl) (fun K hK => ?_)
        go_simp
        go_at_call 40
        with_reducible refine (refIs_below a_ _ HNa_ (by omega) _).mono ?_
        rintro e w3 ⟨rfl, hbx⟩
        replace u0 := cell_below hbx u0
        replace u1 := cell_below hbx u1
        replace u2 := cell_below hbx u2
        replace u3 := cell_below hbx u3
        replace u4 := cell_below hbx u4
        replace u5 := cell_below hbx u5
        replace u6 := cell_below hbx u6
        replace hbX := hcall hbX hbx
        replace D := below_call D hbx
        refine hK.out _ _ (by (try dsimp only); (exact ⟨u0, u1, u2, u3, u4, u5, u6⟩)) (fun hHeld => ?_)
        clear hK K
        try simp only [Act.put, List.getElem_toArray, List.getElem_cons_succ, List.getElem_cons_zero, List.setIfInBounds_toArray, List.set_cons_zero, List.set_cons_succ]
        refine Held.take (k := 3) (i := 3) (v := ?vka3) noska okkka_3 sizka (by kernel_rfl) rfl (fun _ _ _ h => h) (Or.inl ⟨by kernel_rfl, ?hyka3⟩) (by assumption) ?restka3
        case hyka3 => (intro w hSw; (try dsimp only at hSw); go_simp; (try (first | with_reducible rfl | rw [if_neg (by omega)])))
        try simp only [Act.put, List.getElem_toArray, List.getElem_cons_succ, List.getElem_cons_zero, List.setIfInBounds_toArray, List.set_cons_zero, List.set_cons_succ]
        refine Held.take (k := 4) (i := 4) (v := ?vka4) noska okkka_4 sizka (by kernel_rfl) rfl (fun _ _ _ h => h) (Or.inl ⟨by kernel_rfl, ?hyka4⟩) (by assumption) ?restka4
        case hyka4 => (intro w hSw; (try dsimp only at hSw); go_simp; (try (first | with_reducible rfl | rw [if_neg (by omega)])))
        try simp only [Act.put, List.getElem_toArray, List.getElem_cons_succ, List.getElem_cons_zero, List.setIfInBounds_toArray, List.set_cons_zero, List.set_cons_succ]
        refine Held.take (k := 5) (i := 5) (v := undef) noska okkka_5 sizka (by kernel_rfl) rfl (fun _ _ _ h => h) (Or.inr ⟨by kernel_rfl, rfl⟩) (by assumption) ?_
        try simp only [Act.put, List.getElem_toArray, List.getElem_cons_succ, List.getElem_cons_zero, List.setIfInBounds_toArray, List.set_cons_zero, List.set_cons_succ]
        refine Held.take (k := 6) (i := 6) (v := undef) noska okkka_6 sizka (by kernel_rfl) rfl (fun _ _ _ h => h) (Or.inr ⟨by kernel_rfl, rfl⟩) (by assumption) ?_
        try simp only [Act.put, List.getElem_toArray, List.getElem_cons_succ, List.getElem_cons_zero, List.setIfInBounds_toArray, List.set_cons_zero, List.set_cons_succ]
        refine Held.take (k := 7) (i := 7) (v := undef) noska okkka_7 sizka (by kernel_rfl) rfl (fun _ _ _ h => h) (Or.inr ⟨by kernel_rfl, rfl⟩) (by assumption) ?_
        try simp only [Act.put, List.getElem_toArray, List.getElem_cons_succ, List.getElem_cons_zero, List.setIfInBounds_toArray, List.set_cons_zero, List.set_cons_succ]
        refine Held.take (k := 8) (i := 8) (v := undef) noska okkka_8 sizka (by kernel_rfl) rfl (fun _ _ _ h => h) (Or.inr ⟨by kernel_rfl, rfl⟩) (by assumption) ?_
        try simp only [Act.put, List.getElem_toArray, List.getElem_cons_succ, List.getElem_cons_zero, List.setIfInBounds_toArray, List.set_cons_zero, List.set_cons_succ]
        refine Held.take (k := 9) (i := 9) (v := ?vka9) noska okkka_9 sizka (by kernel_rfl) rfl (fun _ _ _ h => h) (Or.inl ⟨by kernel_rfl, ?hyka9⟩) (by assumption) ?restka9
        case hyka9 => (intro w hSw; (try dsimp only at hSw); go_simp; (try (first | with_reducible rfl | rw [if_neg (by omega)])))
        try simp only [Act.put, List.getElem_toArray, List.getElem_cons_succ, List.getElem_cons_zero, List.setIfInBounds_toArray, List.set_cons_zero, List.set_cons_succ]
        refine Held.take (k := 10) (i := 10) (v := ?vka10) noska okkka_10 sizka (by kernel_rfl) rfl (fun _ _ _ h => h) (Or.inl ⟨by kernel_rfl, ?hyka10⟩) (by assumption) ?restka10
        case hyka10 => (intro w hSw; (try dsimp only at hSw); go_simp; (try (first | with_reducible rfl | rw [if_neg (by omega)])))
        try simp only [Act.put, List.getElem_toArray, List.getElem_cons_succ, List.getElem_cons_zero, List.setIfInBounds_toArray, List.set_cons_zero, List.set_cons_succ]
        refine Held.take (k := 11) (i := 11) (v := undef) noska okkka_11 sizka (by kernel_rfl) rfl (fun _ _ _ h => h) (Or.inr ⟨by kernel_rfl, rfl⟩) (by assumption) ?_
        try simp only [Act.put, List.getElem_toArray, List.getElem_cons_succ, List.getElem_cons_zero, List.setIfInBounds_toArray, List.set_cons_zero, List.set_cons_succ]
        refine Held.take (k := 12) (i := 12) (v := undef) noska okkka_12 sizka (by kernel_rfl) rfl (fun _ _ _ h => h) (Or.inr ⟨by kernel_rfl, rfl⟩) (by assumption) ?_
        try simp only [Act.put, List.getElem_toArray, List.getElem_cons_succ, List.getElem_cons_zero, List.setIfInBounds_toArray, List.set_cons_zero, List.set_cons_succ]
        refine Held.take (k := 13) (i := 13) (v := undef) noska okkka_13 sizka (by kernel_rfl) rfl (fun _ _ _ h => h) (Or.inr ⟨by kernel_rfl, rfl⟩) (by assumption) ?_
        try simp only [Act.put, List.getElem_toArray, List.getElem_cons_succ, List.getElem_cons_zero, List.setIfInBounds_toArray, List.set_cons_zero, List.set_cons_succ]
        refine Held.take (k := 14) (i := 14) (v := undef) noska okkka_14 sizka (by kernel_rfl) rfl (fun _ _ _ h => h) (Or.inr ⟨by kernel_rfl, rfl⟩) (by assumption) ?_
        try simp only [Act.put, List.getElem_toArray, List.getElem_cons_succ, List.getElem_cons_zero, List.setIfInBounds_toArray, List.set_cons_zero, List.set_cons_succ]
        refine Held.take (k := 15) (i := 15) (v := undef) noska okkka_15 sizka (by kernel_rfl) rfl (fun _ _ _ h => h) (Or.inr ⟨by kernel_rfl, rfl⟩) (by assumption) ?_
        try simp only [Act.put, List.getElem_toArray, List.getElem_cons_succ, List.getElem_cons_zero, List.setIfInBounds_toArray, List.set_cons_zero, List.set_cons_succ]
        refine Held.take (k := 16) (i := 16) (v := ?vka16) noska okkka_16 sizka (by kernel_rfl) rfl (fun _ _ _ h => h) (Or.inl ⟨by kernel_rfl, ?hyka16⟩) (by assumption) ?restka16
        case hyka16 => (intro w hSw; (try dsimp only at hSw); go_simp; (try (first | with_reducible rfl | rw [if_neg (by omega)])))
        try simp only [Act.put, List.getElem_toArray, List.getElem_cons_succ, List.getElem_cons_zero, List.setIfInBounds_toArray, List.set_cons_zero, List.set_cons_succ]
        refine Held.take (k := 17) (i := 17) (v := ?vka17) noska okkka_17 sizka (by kernel_rfl) rfl (fun _ _ _ h => h) (Or.inl ⟨by kernel_rfl, ?hyka17⟩) (by assumption) ?restka17
        case hyka17 => (intro w hSw; (try dsimp only at hSw); go_simp; (try (first | with_reducible rfl | rw [if_neg (by omega)])))
        try simp only [Act.put, List.getElem_toArray, List.getElem_cons_succ, List.getElem_cons_zero, List.setIfInBounds_toArray, List.set_cons_zero, List.set_cons_succ]
        refine Held.take (k := 18) (i := 18) (v := undef) noska okkka_18 sizka (by kernel_rfl) rfl (fun _ _ _ h => h) (Or.inr ⟨by kernel_rfl, rfl⟩) (by assumption) ?_
        try simp only [Act.put, List.getElem_toArray, List.getElem_cons_succ, List.getElem_cons_zero, List.setIfInBounds_toArray, List.set_cons_zero, List.set_cons_succ]
        refine Held.take (k := 19) (i := 19) (v := undef) noska okkka_19 sizka (by kernel_rfl) rfl (fun _ _ _ h => h) (Or.inr ⟨by kernel_rfl, rfl⟩) (by assumption) ?_
        try simp only [Act.put, List.getElem_toArray, List.getElem_cons_succ, List.getElem_cons_zero, List.setIfInBounds_toArray, List.set_cons_zero, List.set_cons_succ]
        refine Held.take (k := 20) (i := 20) (v := undef) noska okkka_20 sizka (by kernel_rfl) rfl (fun _ _ _ h => h) (Or.inr ⟨by kernel_rfl, rfl⟩) (by assumption) ?_
        try simp only [Act.put, List.getElem_toArray, List.getElem_cons_succ, List.getElem_cons_zero, List.setIfInBounds_toArray, List.set_cons_zero, List.set_cons_succ]
        refine Held.take (k := 21) (i := 21) (v := undef) noska okkka_21 sizka (by kernel_rfl) rfl (fun _ _ _ h => h) (Or.inr ⟨by kernel_rfl, rfl⟩) (by assumption) ?_
        try simp only [Act.put, List.getElem_toArray, List.getElem_cons_succ, List.getElem_cons_zero, List.setIfInBounds_toArray, List.set_cons_zero, List.set_cons_succ]
        refine Held.take (k := 22) (i := 22) (v := undef) noska okkka_22 sizka (by kernel_rfl) rfl (fun _ _ _ h => h) (Or.inr ⟨by kernel_rfl, rfl⟩) (by assumption) ?_
        try simp only [Act.put, List.getElem_toArray, List.getElem_cons_succ, List.getElem_cons_zero, List.setIfInBounds_toArray, List.set_cons_zero, List.set_cons_succ]
        refine Held.take (k := 23) (i := 23) (v := undef) noska okkka_23 sizka (by kernel_rfl) rfl (fun _ _ _ h => h) (Or.inr ⟨by kernel_rfl, rfl⟩) (by assumption) ?_
        try simp only [Act.put, List.getElem_toArray, List.getElem_cons_succ, List.getElem_cons_zero, List.setIfInBounds_toArray, List.set_cons_zero, List.set_cons_succ]
        refine Held.take (k := 24) (i := 24) (v := undef) noska okkka_24 sizka (by kernel_rfl) rfl (fun _ _ _ h => h) (Or.inr ⟨by kernel_rfl, rfl⟩) (by assumption) ?_
        try simp only [Act.put, List.getElem_toArray, List.getElem_cons_succ, List.getElem_cons_zero, List.setIfInBounds_toArray, List.set_cons_zero, List.set_cons_succ]
        refine Held.take (k := 25) (i := 25) (v := undef) noska okkka_25 sizka (by kernel_rfl) rfl (fun _ _ _ h => h) (Or.inr ⟨by kernel_rfl, rfl⟩) (by assumption) ?_
        try simp only [Act.put, List.getElem_toArray, List.getElem_cons_succ, List.getElem_cons_zero, List.setIfInBounds_toArray, List.set_cons_zero, List.set_cons_succ]
        refine Held.take (k := 26) (i := 26) (v := undef) noska okkka_26 sizka (by kernel_rfl) rfl (fun _ _ _ h => h) (Or.inr ⟨by kernel_rfl, rfl⟩) (by assumption) ?_
        try simp only [Act.put, List.getElem_toArray, List.getElem_cons_succ, List.getElem_cons_zero, List.setIfInBounds_toArray, List.set_cons_zero, List.set_cons_succ]
        refine Held.take (k := 27) (i := 27) (v := undef) noska okkka_27 sizka (by kernel_rfl) rfl (fun _ _ _ h => h) (Or.inr ⟨by kernel_rfl, rfl⟩) (by assumption) ?_
        try simp only [Act.put, List.getElem_toArray, List.getElem_cons_succ, List.getElem_cons_zero, List.setIfInBounds_toArray, List.set_cons_zero, List.set_cons_succ]
        refine Held.take (k := 28) (i := 28) (v := undef) noska okkka_28 sizka (by kernel_rfl) rfl (fun _ _ _ h => h) (Or.inr ⟨by kernel_rfl, rfl⟩) (by assumption) ?_
        try simp only [Act.put, List.getElem_toArray, List.getElem_cons_succ, List.getElem_cons_zero, List.setIfInBounds_toArray, List.set_cons_zero, List.set_cons_succ]
        refine Held.take (k := 29) (i := 29) (v := undef) noska okkka_29 sizka (by kernel_rfl) rfl (fun _ _ _ h => h) (Or.inr ⟨by kernel_rfl, rfl⟩) (by assumption) ?_
        try simp only [Act.put, List.getElem_toArray, List.getElem_cons_succ, List.getElem_cons_zero, List.setIfInBounds_toArray, List.set_cons_zero, List.set_cons_succ]
        refine Held.take (k := 30) (i := 30) (v := ?vka30) noska okkka_30 sizka (by kernel_rfl) rfl (fun _ _ _ h => h) (Or.inl ⟨by kernel_rfl, ?hyka30⟩) (by assumption) ?restka30
        case hyka30 => (intro w hSw; (try dsimp only at hSw); go_simp; (try (first | with_reducible rfl | rw [if_neg (by omega)])))
        try simp only [Act.put, List.getElem_toArray, List.getElem_cons_succ, List.getElem_cons_zero, List.setIfInBounds_toArray, List.set_cons_zero, List.set_cons_succ]
        refine Held.take (k := 31) (i := 31) (v := ?vka31) noska okkka_31 sizka (by kernel_rfl) rfl (fun _ _ _ h => h) (Or.inl ⟨by kernel_rfl, ?hyka31⟩) (by assumption) ?restka31
        case hyka31 => (intro w hSw; (try dsimp only at hSw); go_simp; (try (first | with_reducible rfl | rw [if_neg (by omega)])))
        try simp only [Act.put, List.getElem_toArray, List.getElem_cons_succ, List.getElem_cons_zero, List.setIfInBounds_toArray, List.set_cons_zero, List.set_cons_succ]
        refine Held.take (k := 32) (i := 32) (v := undef) noska okkka_32 sizka (by kernel_rfl) rfl (fun _ _ _ h => h) (Or.inr ⟨by kernel_rfl, rfl⟩) (by assumption) ?_
        try simp only [Act.put, List.getElem_toArray, List.getElem_cons_succ, List.getElem_cons_zero, List.setIfInBounds_toArray, List.set_cons_zero, List.set_cons_succ]
        refine Held.take (k := 33) (i := 33) (v := undef) noska okkka_33 sizka (by kernel_rfl) rfl (fun _ _ _ h => h) (Or.inr ⟨by kernel_rfl, rfl⟩) (by assumption) ?_
        try simp only [Act.put, List.getElem_toArray, List.getElem_cons_succ, List.getElem_cons_zero, List.setIfInBounds_toArray, List.set_cons_zero, List.set_cons_succ]
        refine Held.take (k := 34) (i := 34) (v := undef) noska okkka_34 sizka (by kernel_rfl) rfl (fun _ _ _ h => h) (Or.inr ⟨by kernel_rfl, rfl⟩) (by assumption) ?_
        try simp only [Act.put, List.getElem_toArray, List.getElem_cons_succ, List.getElem_cons_zero, List.setIfInBounds_toArray, List.set_cons_zero, List.set_cons_succ]
        refine Held.take (k := 35) (i := 35) (v := undef) noska okkka_35 sizka (by kernel_rfl) rfl (fun _ _ _ h => h) (Or.inr ⟨by kernel_rfl, rfl⟩) (by assumption) ?_
        try simp only [Act.put, List.getElem_toArray, List.getElem_cons_succ, List.getElem_cons_zero, List.setIfInBounds_toArray, List.set_cons_zero, List.set_cons_succ]
        refine Held.take (k := 36) (i := 36) (v := undef) noska okkka_36 sizka (by kernel_rfl) rfl (fun _ _ _ h => h) (Or.inr ⟨by kernel_rfl, rfl⟩) (by assumption) ?_
        try simp only [Act.put, List.getElem_toArray, List.getElem_cons_succ, List.getElem_cons_zero, List.setIfInBounds_toArray, List.set_cons_zero, List.set_cons_succ]
        refine Held.take (k := 37) (i := 37) (v := undef) noska okkka_37 sizka (by kernel_rfl) rfl (fun _ _ _ h => h) (Or.inr ⟨by kernel_rfl, rfl⟩) (by assumption) ?_
        try simp only [Act.put, List.getElem_toArray, List.getElem_cons_succ, List.getElem_cons_zero, List.setIfInBounds_toArray, List.set_cons_zero, List.set_cons_succ]
        refine Held.take (k := 38) (i := 38) (v := ?vka38) noska okkka_38 sizka (by kernel_rfl) rfl (fun _ _ _ h => h) (Or.inl ⟨by kernel_rfl, ?hyka38⟩) (by assumption) ?restka38
        case hyka38 => (intro w hSw; (try dsimp only at hSw); go_simp; (try (first | with_reducible rfl | rw [if_neg (by omega)])))
        try simp only [Act.put, List.getElem_toArray, List.getElem_cons_succ, List.getElem_cons_zero, List.setIfInBounds_toArray, List.set_cons_zero, List.set_cons_succ]
        refine wpAnyH_done (by kernel_rfl) ?_ _
        clear u0 u1 u2 u3 u4 u5 u6
        go_wp2
        go_ret
        rw [HF.out]
        exact ⟨rfl, D⟩
      | true =>
      obtain ⟨n2, hn2⟩ : ∃ b, isName b_ = b := ⟨_, rfl⟩
      have HNb_ := Lib.hid hn2
      clear hn2
      cases n2 with
      | false =>
        have HF : Hid (r = false) := by
          show _ = _
          rw [← HR.out]
          exact mayRo_no_one (List.getElem_mem hil) (by rw [HCD.out, HNa_.out, HNb_.out]; rfl)
        clear uz
        replace hbX : (wr.alloc (bxEn a_ b_ c_ d_ e_ f_ g_)).drew.heap[_]? = _ := hbX
        replace D : Below _ _ (wr.alloc (bxEn a_ b_ c_ d_ e_ f_ g_)).drew := D.drew
        go_wp2_with fail
        refine Held.start (ops := opskb) (S := fun w' => w'.cell? ⟨wr.heap.size, 0, none⟩ = some (.string a_) ∧ w'.cell? ⟨wr.heap.size, 1, none⟩ = some (.string b_) ∧ w'.cell? ⟨wr.heap.size, 2, none⟩ = some (.bool c_) ∧ w'.cell? ⟨wr.heap.size, 3, none⟩ = some (.bool d_) ∧ w'.cell? ⟨wr.heap.size, 4, none⟩ = some (.bool e_) ∧ w'.cell? ⟨wr.heap.size, 5, none⟩ = some (.bool f_) ∧ w'.cell? ⟨wr.heap.size, 6, none⟩ = some (.bool g_)) ordkb 39 (by kernel_rfl) sizkb (by kernel_rfl) ⟨u0, u1, u2, u3, u4, u5, u6⟩ (fun hHeld => ?_)
        refine Held.take (k := 0) (i := 0) (v := ?vkb0) noskb okkkb_0 sizkb (by kernel_rfl) rfl (fun _ _ _ h => h) (Or.inl ⟨by kernel_rfl, ?hykb0⟩) (by assumption) ?restkb0
        case hykb0 => (intro w hSw; (try dsimp only at hSw); go_simp; (try (first | with_reducible rfl | rw [if_neg (by omega)])))
        try simp only [Act.put, List.getElem_toArray, List.getElem_cons_succ, List.getElem_cons_zero, List.setIfInBounds_toArray, List.set_cons_zero, List.set_cons_succ]
        refine Held.take (k := 1) (i := 1) (v := ?vkb1) noskb okkkb_1 sizkb (by kernel_rfl) rfl (fun _ _ _ h => h) (Or.inl ⟨by kernel_rfl, ?hykb1⟩) (by assumption) ?restkb1
        case hykb1 => (intro w hSw; (try dsimp only at hSw); go_simp; (try (first | with_reducible rfl | rw [if_neg (by omega)])))
        try simp only [Act.put, List.getElem_toArray, List.getElem_cons_succ, List.getElem_cons_zero, List.setIfInBounds_toArray, List.set_cons_zero, List.set_cons_succ]
        refine Held.only (k := 2) (i := 2) rdykb_2 (by kernel_rfl) rfl (by kernel_rfl) (fun K hK => ?_)
        go_simp
        go_at_call 40
        with_reducible refine (refIs_below a_ _ HNa_ (by omega) _).mono ?_
        rintro e w3 ⟨rfl, hbx⟩
        replace u0 := cell_below hbx u0
        replace u1 := cell_below hbx u1
        replace u2 := cell_below hbx u2
        replace u3 := cell_below hbx u3
        replace u4 := cell_below hbx u4
        replace u5 := cell_below hbx u5
        replace u6 := cell_below hbx u6
        replace hbX := hcall hbX hbx
        replace D := below_call D hbx
        refine hK.out _ _ (by (try dsimp only); (exact ⟨u0, u1, u2, u3, u4, u5, u6⟩)) (fun hHeld => ?_)
        clear hK K
        try simp only [Act.put, List.getElem_toArray, List.getElem_cons_succ, List.getElem_cons_zero, List.setIfInBounds_toArray, List.set_cons_zero, List.set_cons_succ]
        refine Held.take (k := 3) (i := 3) (v := ?vkb3) noskb okkkb_3 sizkb (by kernel_rfl) rfl (fun _ _ _ h => h) (Or.inl ⟨by kernel_rfl, ?hykb3⟩) (by assumption) ?restkb3
        case hykb3 => (intro w hSw; (try dsimp only at hSw); go_simp; (try (first | with_reducible rfl | rw [if_neg (by omega)])))
        try simp only [Act.put, List.getElem_toArray, List.getElem_cons_succ, List.getElem_cons_zero, List.setIfInBounds_toArray, List.set_cons_zero, List.set_cons_succ]
        refine Held.take (k := 4) (i := 4) (v := ?vkb4) noskb okkkb_4 sizkb (by kernel_rfl) rfl (fun _ _ _ h => h) (Or.inl ⟨by kernel_rfl, ?hykb4⟩) (by assumption) ?restkb4
        case hykb4 => (intro w hSw; (try dsimp only at hSw); go_simp; (try (first | with_reducible rfl | rw [if_neg (by omega)])))
        try simp only [Act.put, List.getElem_toArray, List.getElem_cons_succ, List.getElem_cons_zero, List.setIfInBounds_toArray, List.set_cons_zero, List.set_cons_succ]
        refine Held.take (k := 5) (i := 5) (v := ?vkb5) noskb okkkb_5 sizkb (by kernel_rfl) rfl (fun _ _ _ h => h) (Or.inl ⟨by kernel_rfl, ?hykb5⟩) (by assumption) ?restkb5
        case hykb5 => (intro w hSw; (try dsimp only at hSw); go_simp; (try (first | with_reducible rfl | rw [if_neg (by omega)])))
        try simp only [Act.put, List.getElem_toArray, List.getElem_cons_succ, List.getElem_cons_zero, List.setIfInBounds_toArray, List.set_cons_zero, List.set_cons_succ]
        refine Held.take (k := 6) (i := 6) (v := ?vkb6) noskb okkkb_6 sizkb (by kernel_rfl) rfl (fun _ _ _ h => h) (Or.inl ⟨by kernel_rfl, ?hykb6⟩) (by assumption) ?restkb6
        case hykb6 => (intro w hSw; (try dsimp only at hSw); go_simp; (try (first | with_reducible rfl | rw [if_neg (by omega)])))
        try simp only [Act.put, List.getElem_toArray, List.getElem_cons_succ, List.getElem_cons_zero, List.setIfInBounds_toArray, List.set_cons_zero, List.set_cons_succ]
        refine Held.only (k := 7) (i := 7) rdykb_7 (by kernel_rfl) rfl (by kernel_rfl) (fun K hK => ?_)
        go_simp
        go_at_call 40
        with_reducible refine (refIs_below b_ _ HNb_ (by omega) _).mono ?_
        rintro e w4 ⟨rfl, hbx⟩
        replace u0 := cell_below hbx u0
        replace u1 := cell_below hbx u1
        replace u2 := cell_below hbx u2
        replace u3 := cell_below hbx u3
        replace u4 := cell_below hbx u4
        replace u5 := cell_below hbx u5
        replace u6 := cell_below hbx u6
        replace hbX := hcall hbX hbx
        replace D := below_call D hbx
        refine hK.out _ _ (by (try dsimp only); (exact ⟨u0, u1, u2, u3, u4, u5, u6⟩)) (fun hHeld => ?_)
        clear hK K
        try simp only [Act.put, List.getElem_toArray, List.getElem_cons_succ, List.getElem_cons_zero, List.setIfInBounds_toArray, List.set_cons_zero, List.set_cons_succ]
        refine Held.take (k := 8) (i := 8) (v := ?vkb8) noskb okkkb_8 sizkb (by kernel_rfl) rfl (fun _ _ _ h => h) (Or.inl ⟨by kernel_rfl, ?hykb8⟩) (by assumption) ?restkb8
        case hykb8 => (intro w hSw; (try dsimp only at hSw); go_simp; (try (first | with_reducible rfl | rw [if_neg (by omega)])))
        try simp only [Act.put, List.getElem_toArray, List.getElem_cons_succ, List.getElem_cons_zero, List.setIfInBounds_toArray, List.set_cons_zero, List.set_cons_succ]
        refine Held.take (k := 9) (i := 9) (v := ?vkb9) noskb okkkb_9 sizkb (by kernel_rfl) rfl (fun _ _ _ h => h) (Or.inl ⟨by kernel_rfl, ?hykb9⟩) (by assumption) ?restkb9
        case hykb9 => (intro w hSw; (try dsimp only at hSw); go_simp; (try (first | with_reducible rfl | rw [if_neg (by omega)])))
        try simp only [Act.put, List.getElem_toArray, List.getElem_cons_succ, List.getElem_cons_zero, List.setIfInBounds_toArray, List.set_cons_zero, List.set_cons_succ]
        refine Held.take (k := 10) (i := 10) (v := ?vkb10) noskb okkkb_10 sizkb (by kernel_rfl) rfl (fun _ _ _ h => h) (Or.inl ⟨by kernel_rfl, ?hykb10⟩) (by assumption) ?restkb10
        case hykb10 => (intro w hSw; (try dsimp only at hSw); go_simp; (try (first | with_reducible rfl | rw [if_neg (by omega)])))
        try simp only [Act.put, List.getElem_toArray, List.getElem_cons_succ, List.getElem_cons_zero, List.setIfInBounds_toArray, List.set_cons_zero, List.set_cons_succ]
        refine Held.take (k := 11) (i := 11) (v := undef) noskb okkkb_11 sizkb (by kernel_rfl) rfl (fun _ _ _ h => h) (Or.inr ⟨by kernel_rfl, rfl⟩) (by assumption) ?_
        try simp only [Act.put, List.getElem_toArray, List.getElem_cons_succ, List.getElem_cons_zero, List.setIfInBounds_toArray, List.set_cons_zero, List.set_cons_succ]
        refine Held.take (k := 12) (i := 12) (v := undef) noskb okkkb_12 sizkb (by kernel_rfl) rfl (fun _ _ _ h => h) (Or.inr ⟨by kernel_rfl, rfl⟩) (by assumption) ?_
        try simp only [Act.put, List.getElem_toArray, List.getElem_cons_succ, List.getElem_cons_zero, List.setIfInBounds_toArray, List.set_cons_zero, List.set_cons_succ]
        refine Held.take (k := 13) (i := 13) (v := undef) noskb okkkb_13 sizkb (by kernel_rfl) rfl (fun _ _ _ h => h) (Or.inr ⟨by kernel_rfl, rfl⟩) (by assumption) ?_
        try simp only [Act.put, List.getElem_toArray, List.getElem_cons_succ, List.getElem_cons_zero, List.setIfInBounds_toArray, List.set_cons_zero, List.set_cons_succ]
        refine Held.take (k := 14) (i := 14) (v := undef) noskb okkkb_14 sizkb (by kernel_rfl) rfl (fun _ _ _ h => h) (Or.inr ⟨by kernel_rfl, rfl⟩) (by assumption) ?_
        try simp only [Act.put, List.getElem_toArray, List.getElem_cons_succ, List.getElem_cons_zero, List.setIfInBounds_toArray, List.set_cons_zero, List.set_cons_succ]
        refine Held.take (k := 15) (i := 15) (v := undef) noskb okkkb_15 sizkb (by kernel_rfl) rfl (fun _ _ _ h => h) (Or.inr ⟨by kernel_rfl, rfl⟩) (by assumption) ?_
        try simp only [Act.put, List.getElem_toArray, List.getElem_cons_succ, List.getElem_cons_zero, List.setIfInBounds_toArray, List.set_cons_zero, List.set_cons_succ]
        refine Held.take (k := 16) (i := 16) (v := ?vkb16) noskb okkkb_16 sizkb (by kernel_rfl) rfl (fun _ _ _ h => h) (Or.inl ⟨by kernel_rfl, ?hykb16⟩) (by assumption) ?restkb16
        case hykb16 => (intro w hSw; (try dsimp only at hSw); go_simp; (try (first | with_reducible rfl | rw [if_neg (by omega)])))
        try simp only [Act.put, List.getElem_toArray, List.getElem_cons_succ, List.getElem_cons_zero, List.setIfInBounds_toArray, List.set_cons_zero, List.set_cons_succ]
        refine Held.take (k := 17) (i := 17) (v := ?vkb17) noskb okkkb_17 sizkb (by kernel_rfl) rfl (fun _ _ _ h => h) (Or.inl ⟨by kernel_rfl, ?hykb17⟩) (by assumption) ?restkb17
        case hykb17 => (intro w hSw; (try dsimp only at hSw); go_simp; (try (first | with_reducible rfl | rw [if_neg (by omega)])))
        try simp only [Act.put, List.getElem_toArray, List.getElem_cons_succ, List.getElem_cons_zero, List.setIfInBounds_toArray, List.set_cons_zero, List.set_cons_succ]
        refine Held.take (k := 18) (i := 18) (v := undef) noskb okkkb_18 sizkb (by kernel_rfl) rfl (fun _ _ _ h => h) (Or.inr ⟨by kernel_rfl, rfl⟩) (by assumption) ?_
        try simp only [Act.put, List.getElem_toArray, List.getElem_cons_succ, List.getElem_cons_zero, List.setIfInBounds_toArray, List.set_cons_zero, List.set_cons_succ]
        refine Held.take (k := 19) (i := 19) (v := undef) noskb okkkb_19 sizkb (by kernel_rfl) rfl (fun _ _ _ h => h) (Or.inr ⟨by kernel_rfl, rfl⟩) (by assumption) ?_
        try simp only [Act.put, List.getElem_toArray, List.getElem_cons_succ, List.getElem_cons_zero, List.setIfInBounds_toArray, List.set_cons_zero, List.set_cons_succ]
        refine Held.take (k := 20) (i := 20) (v := undef) noskb okkkb_20 sizkb (by kernel_rfl) rfl (fun _ _ _ h => h) (Or.inr ⟨by kernel_rfl, rfl⟩) (by assumption) ?_
        try simp only [Act.put, List.getElem_toArray, List.getElem_cons_succ, List.getElem_cons_zero, List.setIfInBounds_toArray, List.set_cons_zero, List.set_cons_succ]
        refine Held.take (k := 21) (i := 21) (v := undef) noskb okkkb_21 sizkb (by kernel_rfl) rfl (fun _ _ _ h => h) (Or.inr ⟨by kernel_rfl, rfl⟩) (by assumption) ?_
        try simp only [Act.put, List.getElem_toArray, List.getElem_cons_succ, List.getElem_cons_zero, List.setIfInBounds_toArray, List.set_cons_zero, List.set_cons_succ]
        refine Held.take (k := 22) (i := 22) (v := undef) noskb okkkb_22 sizkb (by kernel_rfl) rfl (fun _ _ _ h => h) (Or.inr ⟨by kernel_rfl, rfl⟩) (by assumption) ?_
        try simp only [Act.put, List.getElem_toArray, List.getElem_cons_succ, List.getElem_cons_zero, List.setIfInBounds_toArray, List.set_cons_zero, List.set_cons_succ]
        refine Held.take (k := 23) (i := 23) (v := undef) noskb okkkb_23 sizkb (by kernel_rfl) rfl (fun _ _ _ h => h) (Or.inr ⟨by kernel_rfl, rfl⟩) (by assumption) ?_
        try simp only [Act.put, List.getElem_toArray, List.getElem_cons_succ, List.getElem_cons_zero, List.setIfInBounds_toArray, List.set_cons_zero, List.set_cons_succ]
        refine Held.take (k := 24) (i := 24) (v := undef) noskb okkkb_24 sizkb (by kernel_rfl) rfl (fun _ _ _ h => h) (Or.inr ⟨by kernel_rfl, rfl⟩) (by assumption) ?_
        try simp only [Act.put, List.getElem_toArray, List.getElem_cons_succ, List.getElem_cons_zero, List.setIfInBounds_toArray, List.set_cons_zero, List.set_cons_succ]
        refine Held.take (k := 25) (i := 25) (v := undef) noskb okkkb_25 sizkb (by kernel_rfl) rfl (fun _ _ _ h => h) (Or.inr ⟨by kernel_rfl, rfl⟩) (by assumption) ?_
        try simp only [Act.put, List.getElem_toArray, List.getElem_cons_succ, List.getElem_cons_zero, List.setIfInBounds_toArray, List.set_cons_zero, List.set_cons_succ]
        refine Held.take (k := 26) (i := 26) (v := undef) noskb okkkb_26 sizkb (by kernel_rfl) rfl (fun _ _ _ h => h) (Or.inr ⟨by kernel_rfl, rfl⟩) (by assumption) ?_
        try simp only [Act.put, List.getElem_toArray, List.getElem_cons_succ, List.getElem_cons_zero, List.setIfInBounds_toArray, List.set_cons_zero, List.set_cons_succ]
        refine Held.take (k := 27) (i := 27) (v := undef) noskb okkkb_27 sizkb (by kernel_rfl) rfl (fun _ _ _ h => h) (Or.inr ⟨by kernel_rfl, rfl⟩) (by assumption) ?_
        try simp only [Act.put, List.getElem_toArray, List.getElem_cons_succ, List.getElem_cons_zero, List.setIfInBounds_toArray, List.set_cons_zero, List.set_cons_succ]
        refine Held.take (k := 28) (i := 28) (v := undef) noskb okkkb_28 sizkb (by kernel_rfl) rfl (fun _ _ _ h => h) (Or.inr ⟨by kernel_rfl, rfl⟩) (by assumption) ?_
        try simp only [Act.put, List.getElem_toArray, List.getElem_cons_succ, List.getElem_cons_zero, List.setIfInBounds_toArray, List.set_cons_zero, List.set_cons_succ]
        refine Held.take (k := 29) (i := 29) (v := undef) noskb okkkb_29 sizkb (by kernel_rfl) rfl (fun _ _ _ h => h) (Or.inr ⟨by kernel_rfl, rfl⟩) (by assumption) ?_
        try simp only [Act.put, List.getElem_toArray, List.getElem_cons_succ, List.getElem_cons_zero, List.setIfInBounds_toArray, List.set_cons_zero, List.set_cons_succ]
        refine Held.take (k := 30) (i := 30) (v := ?vkb30) noskb okkkb_30 sizkb (by kernel_rfl) rfl (fun _ _ _ h => h) (Or.inl ⟨by kernel_rfl, ?hykb30⟩) (by assumption) ?restkb30
        case hykb30 => (intro w hSw; (try dsimp only at hSw); go_simp; (try (first | with_reducible rfl | rw [if_neg (by omega)])))
        try simp only [Act.put, List.getElem_toArray, List.getElem_cons_succ, List.getElem_cons_zero, List.setIfInBounds_toArray, List.set_cons_zero, List.set_cons_succ]
        refine Held.take (k := 31) (i := 31) (v := ?vkb31) noskb okkkb_31 sizkb (by kernel_rfl) rfl (fun _ _ _ h => h) (Or.inl ⟨by kernel_rfl, ?hykb31⟩) (by assumption) ?restkb31
        case hykb31 => (intro w hSw; (try dsimp only at hSw); go_simp; (try (first | with_reducible rfl | rw [if_neg (by omega)])))
        try simp only [Act.put, List.getElem_toArray, List.getElem_cons_succ, List.getElem_cons_zero, List.setIfInBounds_toArray, List.set_cons_zero, List.set_cons_succ]
        refine Held.take (k := 32) (i := 32) (v := undef) noskb okkkb_32 sizkb (by kernel_rfl) rfl (fun _ _ _ h => h) (Or.inr ⟨by kernel_rfl, rfl⟩) (by assumption) ?_
        try simp only [Act.put, List.getElem_toArray, List.getElem_cons_succ, List.getElem_cons_zero, List.setIfInBounds_toArray, List.set_cons_zero, List.set_cons_succ]
        refine Held.take (k := 33) (i := 33) (v := undef) noskb okkkb_33 sizkb (by kernel_rfl) rfl (fun _ _ _ h => h) (Or.inr ⟨by kernel_rfl, rfl⟩) (by assumption) ?_
        try simp only [Act.put, List.getElem_toArray, List.getElem_cons_succ, List.getElem_cons_zero, List.setIfInBounds_toArray, List.set_cons_zero, List.set_cons_succ]
        refine Held.take (k := 34) (i := 34) (v := undef) noskb okkkb_34 sizkb (by kernel_rfl) rfl (fun _ _ _ h => h) (Or.inr ⟨by kernel_rfl, rfl⟩) (by assumption) ?_
        try simp only [Act.put, List.getElem_toArray, List.getElem_cons_succ, List.getElem_cons_zero, List.setIfInBounds_toArray, List.set_cons_zero, List.set_cons_succ]
        refine Held.take (k := 35) (i := 35) (v := undef) noskb okkkb_35 sizkb (by kernel_rfl) rfl (fun _ _ _ h => h) (Or.inr ⟨by kernel_rfl, rfl⟩) (by assumption) ?_
        try simp only [Act.put, List.getElem_toArray, List.getElem_cons_succ, List.getElem_cons_zero, List.setIfInBounds_toArray, List.set_cons_zero, List.set_cons_succ]
        refine Held.take (k := 36) (i := 36) (v := undef) noskb okkkb_36 sizkb (by kernel_rfl) rfl (fun _ _ _ h => h) (Or.inr ⟨by kernel_rfl, rfl⟩) (by assumption) ?_
        try simp only [Act.put, List.getElem_toArray, List.getElem_cons_succ, List.getElem_cons_zero, List.setIfInBounds_toArray, List.set_cons_zero, List.set_cons_succ]
        refine Held.take (k := 37) (i := 37) (v := undef) noskb okkkb_37 sizkb (by kernel_rfl) rfl (fun _ _ _ h => h) (Or.inr ⟨by kernel_rfl, rfl⟩) (by assumption) ?_
        try simp only [Act.put, List.getElem_toArray, List.getElem_cons_succ, List.getElem_cons_zero, List.setIfInBounds_toArray, List.set_cons_zero, List.set_cons_succ]
        refine Held.take (k := 38) (i := 38) (v := ?vkb38) noskb okkkb_38 sizkb (by kernel_rfl) rfl (fun _ _ _ h => h) (Or.inl ⟨by kernel_rfl, ?hykb38⟩) (by assumption) ?restkb38
        case hykb38 => (intro w hSw; (try dsimp only at hSw); go_simp; (try (first | with_reducible rfl | rw [if_neg (by omega)])))
        try simp only [Act.put, List.getElem_toArray, List.getElem_cons_succ, List.getElem_cons_zero, List.setIfInBounds_toArray, List.set_cons_zero, List.set_cons_succ]
        refine wpAnyH_done (by kernel_rfl) ?_ _
        clear u0 u1 u2 u3 u4 u5 u6
        go_wp2
        go_ret
        rw [HF.out]
        exact ⟨rfl, D⟩
      | true =>
      by_cases hab : a_ = b_
      · have e1 : (a_.toList == b_.toList) = true := by rw [hab]; exact beq_self_eq_true _
        have HF : Hid (r = false) := by
          show _ = _
          rw [← HR.out]
          exact mayRo_no_one (List.getElem_mem hil) (by rw [HCD.out, decide_eq_true hab]; cases isName a_ <;> cases isName b_ <;> rfl)
        clear hab
        clear uz
        replace hbX : (wr.alloc (bxEn a_ b_ c_ d_ e_ f_ g_)).drew.heap[_]? = _ := hbX
        replace D : Below _ _ (wr.alloc (bxEn a_ b_ c_ d_ e_ f_ g_)).drew := D.drew
        go_wp2_with fail
        refine Held.start (ops := opskc) (S := fun w' => w'.cell? ⟨wr.heap.size, 0, none⟩ = some (.string a_) ∧ w'.cell? ⟨wr.heap.size, 1, none⟩ = some (.string b_) ∧ w'.cell? ⟨wr.heap.size, 2, none⟩ = some (.bool c_) ∧ w'.cell? ⟨wr.heap.size, 3, none⟩ = some (.bool d_) ∧ w'.cell? ⟨wr.heap.size, 4, none⟩ = some (.bool e_) ∧ w'.cell? ⟨wr.heap.size, 5, none⟩ = some (.bool f_) ∧ w'.cell? ⟨wr.heap.size, 6, none⟩ = some (.bool g_)) ordkc 39 (by kernel_rfl) sizkc (by kernel_rfl) ⟨u0, u1, u2, u3, u4, u5, u6⟩ (fun hHeld => ?_)
        refine Held.take (k := 0) (i := 0) (v := ?vkc0) noskc okkkc_0 sizkc (by kernel_rfl) rfl (fun _ _ _ h => h) (Or.inl ⟨by kernel_rfl, ?hykc0⟩) (by assumption) ?restkc0
        case hykc0 => (intro w hSw; (try dsimp only at hSw); go_simp; (try (first | with_reducible rfl | rw [if_neg (by omega)])))
        try simp only [Act.put, List.getElem_toArray, List.getElem_cons_succ, List.getElem_cons_zero, List.setIfInBounds_toArray, List.set_cons_zero, List.set_cons_succ]
        refine Held.take (k := 1) (i := 1) (v := ?vkc1) noskc okkkc_1 sizkc (by kernel_rfl) rfl (fun _ _ _ h => h) (Or.inl ⟨by kernel_rfl, ?hykc1⟩) (by assumption) ?restkc1
        case hykc1 => (intro w hSw; (try dsimp only at hSw); go_simp; (try (first | with_reducible rfl | rw [if_neg (by omega)])))
        try simp only [Act.put, List.getElem_toArray, List.getElem_cons_succ, List.getElem_cons_zero, List.setIfInBounds_toArray, List.set_cons_zero, List.set_cons_succ]
        refine Held.only (k := 2) (i := 2) rdykc_2 (by kernel_rfl) rfl (by kernel_rfl) (fun K hK => ?_)
        go_simp
        go_at_call 40
        with_reducible refine (refIs_below a_ _ HNa_ (by omega) _).mono ?_
        rintro e w3 ⟨rfl, hbx⟩
        replace u0 := cell_below hbx u0
        replace u1 := cell_below hbx u1
        replace u2 := cell_below hbx u2
        replace u3 := cell_below hbx u3
        replace u4 := cell_below hbx u4
        replace u5 := cell_below hbx u5
        replace u6 := cell_below hbx u6
        replace hbX := hcall hbX hbx
        replace D := below_call D hbx
        refine hK.out _ _ (by (try dsimp only); (exact ⟨u0, u1, u2, u3, u4, u5, u6⟩)) (fun hHeld => ?_)
        clear hK K
        try simp only [Act.put, List.getElem_toArray, List.getElem_cons_succ, List.getElem_cons_zero, List.setIfInBounds_toArray, List.set_cons_zero, List.set_cons_succ]
        refine Held.take (k := 3) (i := 3) (v := ?vkc3) noskc okkkc_3 sizkc (by kernel_rfl) rfl (fun _ _ _ h => h) (Or.inl ⟨by kernel_rfl, ?hykc3⟩) (by assumption) ?restkc3
        case hykc3 => (intro w hSw; (try dsimp only at hSw); go_simp; (try (first | with_reducible rfl | rw [if_neg (by omega)])))
        try simp only [Act.put, List.getElem_toArray, List.getElem_cons_succ, List.getElem_cons_zero, List.setIfInBounds_toArray, List.set_cons_zero, List.set_cons_succ]
        refine Held.take (k := 4) (i := 4) (v := ?vkc4) noskc okkkc_4 sizkc (by kernel_rfl) rfl (fun _ _ _ h => h) (Or.inl ⟨by kernel_rfl, ?hykc4⟩) (by assumption) ?restkc4
        case hykc4 => (intro w hSw; (try dsimp only at hSw); go_simp; (try (first | with_reducible rfl | rw [if_neg (by omega)])))
        try simp only [Act.put, List.getElem_toArray, List.getElem_cons_succ, List.getElem_cons_zero, List.setIfInBounds_toArray, List.set_cons_zero, List.set_cons_succ]
        refine Held.take (k := 5) (i := 5) (v := ?vkc5) noskc okkkc_5 sizkc (by kernel_rfl) rfl (fun _ _ _ h => h) (Or.inl ⟨by kernel_rfl, ?hykc5⟩) (by assumption) ?restkc5
        case hykc5 => (intro w hSw; (try dsimp only at hSw); go_simp; (try (first | with_reducible rfl | rw [if_neg (by omega)])))
        try simp only [Act.put, List.getElem_toArray, List.getElem_cons_succ, List.getElem_cons_zero, List.setIfInBounds_toArray, List.set_cons_zero, List.set_cons_succ]
        refine Held.take (k := 6) (i := 6) (v := ?vkc6) noskc okkkc_6 sizkc (by kernel_rfl) rfl (fun _ _ _ h => h) (Or.inl ⟨by kernel_rfl, ?hykc6⟩) (by assumption) ?restkc6
        case hykc6 => (intro w hSw; (try dsimp only at hSw); go_simp; (try (first | with_reducible rfl | rw [if_neg (by omega)])))
        try simp only [Act.put, List.getElem_toArray, List.getElem_cons_succ, List.getElem_cons_zero, List.setIfInBounds_toArray, List.set_cons_zero, List.set_cons_succ]
        refine Held.only (k := 7) (i := 7) rdykc_7 (by kernel_rfl) rfl (by kernel_rfl) (fun K hK => ?_)
        go_simp
        go_at_call 40
        with_reducible refine (refIs_below b_ _ HNb_ (by omega) _).mono ?_
        rintro e w4 ⟨rfl, hbx⟩
        replace u0 := cell_below hbx u0
        replace u1 := cell_below hbx u1
        replace u2 := cell_below hbx u2
        replace u3 := cell_below hbx u3
        replace u4 := cell_below hbx u4
        replace u5 := cell_below hbx u5
        replace u6 := cell_below hbx u6
        replace hbX := hcall hbX hbx
        replace D := below_call D hbx
        refine hK.out _ _ (by (try dsimp only); (exact ⟨u0, u1, u2, u3, u4, u5, u6⟩)) (fun hHeld => ?_)
        clear hK K
        try simp only [Act.put, List.getElem_toArray, List.getElem_cons_succ, List.getElem_cons_zero, List.setIfInBounds_toArray, List.set_cons_zero, List.set_cons_succ]
        refine Held.take (k := 8) (i := 8) (v := ?vkc8) noskc okkkc_8 sizkc (by kernel_rfl) rfl (fun _ _ _ h => h) (Or.inl ⟨by kernel_rfl, ?hykc8⟩) (by assumption) ?restkc8
        case hykc8 => (intro w hSw; (try dsimp only at hSw); go_simp; (try (first | with_reducible rfl | rw [if_neg (by omega)])))
        try simp only [Act.put, List.getElem_toArray, List.getElem_cons_succ, List.getElem_cons_zero, List.setIfInBounds_toArray, List.set_cons_zero, List.set_cons_succ]
        refine Held.take (k := 9) (i := 9) (v := ?vkc9) noskc okkkc_9 sizkc (by kernel_rfl) rfl (fun _ _ _ h => h) (Or.inl ⟨by kernel_rfl, ?hykc9⟩) (by assumption) ?restkc9
        case hykc9 => (intro w hSw; (try dsimp only at hSw); go_simp; (try (first | with_reducible rfl | rw [if_neg (by omega)])))
        try simp only [Act.put, List.getElem_toArray, List.getElem_cons_succ, List.getElem_cons_zero, List.setIfInBounds_toArray, List.set_cons_zero, List.set_cons_succ]
        refine Held.take (k := 10) (i := 10) (v := ?vkc10) noskc okkkc_10 sizkc (by kernel_rfl) rfl (fun _ _ _ h => h) (Or.inl ⟨by kernel_rfl, ?hykc10⟩) (by assumption) ?restkc10
        case hykc10 => (intro w hSw; (try dsimp only at hSw); go_simp; (try (first | with_reducible rfl | rw [if_neg (by omega)])))
        try simp only [Act.put, List.getElem_toArray, List.getElem_cons_succ, List.getElem_cons_zero, List.setIfInBounds_toArray, List.set_cons_zero, List.set_cons_succ]
        refine Held.take (k := 11) (i := 11) (v := ?vkc11) noskc okkkc_11 sizkc (by kernel_rfl) rfl (fun _ _ _ h => h) (Or.inl ⟨by kernel_rfl, ?hykc11⟩) (by assumption) ?restkc11
        case hykc11 => (intro w hSw; (try dsimp only at hSw); go_simp; (try (first | with_reducible rfl | rw [if_neg (by omega)])))
        try simp only [Act.put, List.getElem_toArray, List.getElem_cons_succ, List.getElem_cons_zero, List.setIfInBounds_toArray, List.set_cons_zero, List.set_cons_succ]
        refine Held.take (k := 12) (i := 12) (v := ?vkc12) noskc okkkc_12 sizkc (by kernel_rfl) rfl (fun _ _ _ h => h) (Or.inl ⟨by kernel_rfl, ?hykc12⟩) (by assumption) ?restkc12
        case hykc12 => (intro w hSw; (try dsimp only at hSw); go_simp; (try (first | with_reducible rfl | rw [if_neg (by omega)])))
        try simp only [Act.put, List.getElem_toArray, List.getElem_cons_succ, List.getElem_cons_zero, List.setIfInBounds_toArray, List.set_cons_zero, List.set_cons_succ]
        refine Held.take (k := 13) (i := 13) (v := ?vkc13) noskc okkkc_13 sizkc (by kernel_rfl) rfl (fun _ _ _ h => h) (Or.inl ⟨by kernel_rfl, ?hykc13⟩) (by assumption) ?restkc13
        case hykc13 => (intro w hSw; (try dsimp only at hSw); go_simp; (try (first | with_reducible rfl | rw [if_neg (by omega)])))
        try simp only [Act.put, List.getElem_toArray, List.getElem_cons_succ, List.getElem_cons_zero, List.setIfInBounds_toArray, List.set_cons_zero, List.set_cons_succ]
        refine Held.take (k := 14) (i := 14) (v := ?vkc14) noskc okkkc_14 sizkc (by kernel_rfl) rfl (fun _ _ _ h => h) (Or.inl ⟨by kernel_rfl, ?hykc14⟩) (by assumption) ?restkc14
        case hykc14 => (intro w hSw; (try dsimp only at hSw); go_simp; (try (first | with_reducible rfl | rw [if_neg (by omega)])))
        try simp only [Act.put, List.getElem_toArray, List.getElem_cons_succ, List.getElem_cons_zero, List.setIfInBounds_toArray, List.set_cons_zero, List.set_cons_succ]
        refine Held.take (k := 15) (i := 15) (v := ?vkc15) noskc okkkc_15 sizkc (by kernel_rfl) rfl (fun _ _ _ h => h) (Or.inl ⟨by kernel_rfl, ?hykc15⟩) (by assumption) ?restkc15
        case hykc15 => (intro w hSw; (try dsimp only at hSw); go_simp; (try (first | with_reducible rfl | rw [if_neg (by omega)])))
        try simp only [Act.put, List.getElem_toArray, List.getElem_cons_succ, List.getElem_cons_zero, List.setIfInBounds_toArray, List.set_cons_zero, List.set_cons_succ]
        refine Held.take (k := 16) (i := 16) (v := ?vkc16) noskc okkkc_16 sizkc (by kernel_rfl) rfl (fun _ _ _ h => h) (Or.inl ⟨by kernel_rfl, ?hykc16⟩) (by assumption) ?restkc16
        case hykc16 => (intro w hSw; (try dsimp only at hSw); go_simp; (try (first | with_reducible rfl | rw [if_neg (by omega)])))
        try simp only [Act.put, List.getElem_toArray, List.getElem_cons_succ, List.getElem_cons_zero, List.setIfInBounds_toArray, List.set_cons_zero, List.set_cons_succ]
        refine Held.take (k := 17) (i := 17) (v := ?vkc17) noskc okkkc_17 sizkc (by kernel_rfl) rfl (fun _ _ _ h => h) (Or.inl ⟨by kernel_rfl, ?hykc17⟩) (by assumption) ?restkc17
        case hykc17 => (intro w hSw; (try dsimp only at hSw); go_simp; (try (first | with_reducible rfl | rw [if_neg (by omega)])))
        try simp only [Act.put, List.getElem_toArray, List.getElem_cons_succ, List.getElem_cons_zero, List.setIfInBounds_toArray, List.set_cons_zero, List.set_cons_succ]
        refine Held.take (k := 18) (i := 18) (v := undef) noskc okkkc_18 sizkc (by kernel_rfl) rfl (fun _ _ _ h => h) (Or.inr ⟨by kernel_rfl, rfl⟩) (by assumption) ?_
        try simp only [Act.put, List.getElem_toArray, List.getElem_cons_succ, List.getElem_cons_zero, List.setIfInBounds_toArray, List.set_cons_zero, List.set_cons_succ]
        refine Held.take (k := 19) (i := 19) (v := undef) noskc okkkc_19 sizkc (by kernel_rfl) rfl (fun _ _ _ h => h) (Or.inr ⟨by kernel_rfl, rfl⟩) (by assumption) ?_
        try simp only [Act.put, List.getElem_toArray, List.getElem_cons_succ, List.getElem_cons_zero, List.setIfInBounds_toArray, List.set_cons_zero, List.set_cons_succ]
        refine Held.take (k := 20) (i := 20) (v := undef) noskc okkkc_20 sizkc (by kernel_rfl) rfl (fun _ _ _ h => h) (Or.inr ⟨by kernel_rfl, rfl⟩) (by assumption) ?_
        try simp only [Act.put, List.getElem_toArray, List.getElem_cons_succ, List.getElem_cons_zero, List.setIfInBounds_toArray, List.set_cons_zero, List.set_cons_succ]
        refine Held.take (k := 21) (i := 21) (v := undef) noskc okkkc_21 sizkc (by kernel_rfl) rfl (fun _ _ _ h => h) (Or.inr ⟨by kernel_rfl, rfl⟩) (by assumption) ?_
        try simp only [Act.put, List.getElem_toArray, List.getElem_cons_succ, List.getElem_cons_zero, List.setIfInBounds_toArray, List.set_cons_zero, List.set_cons_succ]
        refine Held.take (k := 22) (i := 22) (v := undef) noskc okkkc_22 sizkc (by kernel_rfl) rfl (fun _ _ _ h => h) (Or.inr ⟨by kernel_rfl, rfl⟩) (by assumption) ?_
        try simp only [Act.put, List.getElem_toArray, List.getElem_cons_succ, List.getElem_cons_zero, List.setIfInBounds_toArray, List.set_cons_zero, List.set_cons_succ]
        refine Held.take (k := 23) (i := 23) (v := undef) noskc okkkc_23 sizkc (by kernel_rfl) rfl (fun _ _ _ h => h) (Or.inr ⟨by kernel_rfl, rfl⟩) (by assumption) ?_
        try simp only [Act.put, List.getElem_toArray, List.getElem_cons_succ, List.getElem_cons_zero, List.setIfInBounds_toArray, List.set_cons_zero, List.set_cons_succ]
        refine Held.take (k := 24) (i := 24) (v := undef) noskc okkkc_24 sizkc (by kernel_rfl) rfl (fun _ _ _ h => h) (Or.inr ⟨by kernel_rfl, rfl⟩) (by assumption) ?_
        try simp only [Act.put, List.getElem_toArray, List.getElem_cons_succ, List.getElem_cons_zero, List.setIfInBounds_toArray, List.set_cons_zero, List.set_cons_succ]
        refine Held.take (k := 25) (i := 25) (v := undef) noskc okkkc_25 sizkc (by kernel_rfl) rfl (fun _ _ _ h => h) (Or.inr ⟨by kernel_rfl, rfl⟩) (by assumption) ?_
        try simp only [Act.put, List.getElem_toArray, List.getElem_cons_succ, List.getElem_cons_zero, List.setIfInBounds_toArray, List.set_cons_zero, List.set_cons_succ]
        refine Held.take (k := 26) (i := 26) (v := undef) noskc okkkc_26 sizkc (by kernel_rfl) rfl (fun _ _ _ h => h) (Or.inr ⟨by kernel_rfl, rfl⟩) (by assumption) ?_
        try simp only [Act.put, List.getElem_toArray, List.getElem_cons_succ, List.getElem_cons_zero, List.setIfInBounds_toArray, List.set_cons_zero, List.set_cons_succ]
        refine Held.take (k := 27) (i := 27) (v := undef) noskc okkkc_27 sizkc (by kernel_rfl) rfl (fun _ _ _ h => h) (Or.inr ⟨by kernel_rfl, rfl⟩) (by assumption) ?_
        try simp only [Act.put, List.getElem_toArray, List.getElem_cons_succ, List.getElem_cons_zero, List.setIfInBounds_toArray, List.set_cons_zero, List.set_cons_succ]
        refine Held.take (k := 28) (i := 28) (v := undef) noskc okkkc_28 sizkc (by kernel_rfl) rfl (fun _ _ _ h => h) (Or.inr ⟨by kernel_rfl, rfl⟩) (by assumption) ?_
        try simp only [Act.put, List.getElem_toArray, List.getElem_cons_succ, List.getElem_cons_zero, List.setIfInBounds_toArray, List.set_cons_zero, List.set_cons_succ]
        refine Held.take (k := 29) (i := 29) (v := undef) noskc okkkc_29 sizkc (by kernel_rfl) rfl (fun _ _ _ h => h) (Or.inr ⟨by kernel_rfl, rfl⟩) (by assumption) ?_
        try simp only [Act.put, List.getElem_toArray, List.getElem_cons_succ, List.getElem_cons_zero, List.setIfInBounds_toArray, List.set_cons_zero, List.set_cons_succ]
        refine Held.take (k := 30) (i := 30) (v := ?vkc30) noskc okkkc_30 sizkc (by kernel_rfl) rfl (fun _ _ _ h => h) (Or.inl ⟨by kernel_rfl, ?hykc30⟩) (by assumption) ?restkc30
        case hykc30 => (intro w hSw; (try dsimp only at hSw); go_simp; (try (first | with_reducible rfl | rw [if_neg (by omega)])))
        try simp only [Act.put, List.getElem_toArray, List.getElem_cons_succ, List.getElem_cons_zero, List.setIfInBounds_toArray, List.set_cons_zero, List.set_cons_succ]
        refine Held.take (k := 31) (i := 31) (v := ?vkc31) noskc okkkc_31 sizkc (by kernel_rfl) rfl (fun _ _ _ h => h) (Or.inl ⟨by kernel_rfl, ?hykc31⟩) (by assumption) ?restkc31
        case hykc31 => (intro w hSw; (try dsimp only at hSw); go_simp; (try (first | with_reducible rfl | rw [if_neg (by omega)])))
        try simp only [Act.put, List.getElem_toArray, List.getElem_cons_succ, List.getElem_cons_zero, List.setIfInBounds_toArray, List.set_cons_zero, List.set_cons_succ]
        refine Held.take (k := 32) (i := 32) (v := undef) noskc okkkc_32 sizkc (by kernel_rfl) rfl (fun _ _ _ h => h) (Or.inr ⟨by kernel_rfl, rfl⟩) (by assumption) ?_
        try simp only [Act.put, List.getElem_toArray, List.getElem_cons_succ, List.getElem_cons_zero, List.setIfInBounds_toArray, List.set_cons_zero, List.set_cons_succ]
        refine Held.take (k := 33) (i := 33) (v := undef) noskc okkkc_33 sizkc (by kernel_rfl) rfl (fun _ _ _ h => h) (Or.inr ⟨by kernel_rfl, rfl⟩) (by assumption) ?_
        try simp only [Act.put, List.getElem_toArray, List.getElem_cons_succ, List.getElem_cons_zero, List.setIfInBounds_toArray, List.set_cons_zero, List.set_cons_succ]
        refine Held.take (k := 34) (i := 34) (v := undef) noskc okkkc_34 sizkc (by kernel_rfl) rfl (fun _ _ _ h => h) (Or.inr ⟨by kernel_rfl, rfl⟩) (by assumption) ?_
        try simp only [Act.put, List.getElem_toArray, List.getElem_cons_succ, List.getElem_cons_zero, List.setIfInBounds_toArray, List.set_cons_zero, List.set_cons_succ]
        refine Held.take (k := 35) (i := 35) (v := undef) noskc okkkc_35 sizkc (by kernel_rfl) rfl (fun _ _ _ h => h) (Or.inr ⟨by kernel_rfl, rfl⟩) (by assumption) ?_
        try simp only [Act.put, List.getElem_toArray, List.getElem_cons_succ, List.getElem_cons_zero, List.setIfInBounds_toArray, List.set_cons_zero, List.set_cons_succ]
        refine Held.take (k := 36) (i := 36) (v := undef) noskc okkkc_36 sizkc (by kernel_rfl) rfl (fun _ _ _ h => h) (Or.inr ⟨by kernel_rfl, rfl⟩) (by assumption) ?_
        try simp only [Act.put, List.getElem_toArray, List.getElem_cons_succ, List.getElem_cons_zero, List.setIfInBounds_toArray, List.set_cons_zero, List.set_cons_succ]
        refine Held.take (k := 37) (i := 37) (v := undef) noskc okkkc_37 sizkc (by kernel_rfl) rfl (fun _ _ _ h => h) (Or.inr ⟨by kernel_rfl, rfl⟩) (by assumption) ?_
        try simp only [Act.put, List.getElem_toArray, List.getElem_cons_succ, List.getElem_cons_zero, List.setIfInBounds_toArray, List.set_cons_zero, List.set_cons_succ]
        refine Held.take (k := 38) (i := 38) (v := ?vkc38) noskc okkkc_38 sizkc (by kernel_rfl) rfl (fun _ _ _ h => h) (Or.inl ⟨by kernel_rfl, ?hykc38⟩) (by assumption) ?restkc38
        case hykc38 => (intro w hSw; (try dsimp only at hSw); go_simp; (try (first | with_reducible rfl | rw [if_neg (by omega)])))
        try simp only [Act.put, List.getElem_toArray, List.getElem_cons_succ, List.getElem_cons_zero, List.setIfInBounds_toArray, List.set_cons_zero, List.set_cons_succ]
        refine wpAnyH_done (by kernel_rfl) ?_ _
        clear u0 u1 u2 u3 u4 u5 u6
        go_wp2
        go_ret
        rw [HF.out]
        exact ⟨rfl, D⟩
      have hcd := HCD.out
      rw [HNa_.out, HNb_.out, decide_eq_false hab] at hcd
      simp only [Bool.true_and, Bool.not_false] at hcd
      have HCE := Lib.hid hcd
      have e1 : (a_.toList == b_.toList) = false := by simpa [toList_inj'] using hab
      clear hab hcd
      by_cases hi0 : i = 0
      · have g1 : decide ((0 : Int) < (i : Int)) = false := decide_eq_false (by omega)
        have g1n : decide (0 < i) = false := decide_eq_false (by omega)
        have HJ2 : Hid (∀ j (h : j + 1 < l.length), j + 1 < i + 1 → ltRo (keyRo l[j]) (keyRo l[j + 1]) = true) := fun j _ h => absurd h (by omega)
        clear hi0
        by_cases hm16 : m ≤ 16
        · have d1 : decide ((16 : Int) < (m : Int)) = false := decide_eq_false (by omega)
          have d2 : decide (16 < m) = false := decide_eq_false (by omega)
          clear uz
          replace hbX : (wr.alloc (bxEn a_ b_ c_ d_ e_ f_ g_)).drew.heap[_]? = _ := hbX
          replace D : Below _ _ (wr.alloc (bxEn a_ b_ c_ d_ e_ f_ g_)).drew := D.drew
          go_wp2_with fail
          refine Held.start (ops := opskd1) (S := fun w' => w'.cell? ⟨wr.heap.size, 0, none⟩ = some (.string a_) ∧ w'.cell? ⟨wr.heap.size, 1, none⟩ = some (.string b_) ∧ w'.cell? ⟨wr.heap.size, 2, none⟩ = some (.bool c_) ∧ w'.cell? ⟨wr.heap.size, 3, none⟩ = some (.bool d_) ∧ w'.cell? ⟨wr.heap.size, 4, none⟩ = some (.bool e_) ∧ w'.cell? ⟨wr.heap.size, 5, none⟩ = some (.bool f_) ∧ w'.cell? ⟨wr.heap.size, 6, none⟩ = some (.bool g_)) ordkd1 39 (by kernel_rfl) sizkd1 (by kernel_rfl) ⟨u0, u1, u2, u3, u4, u5, u6⟩ (fun hHeld => ?_)
          refine Held.take (k := 0) (i := 0) (v := ?vkd10) noskd1 okkkd1_0 sizkd1 (by kernel_rfl) rfl (fun _ _ _ h => h) (Or.inl ⟨by kernel_rfl, ?hykd10⟩) (by assumption) ?restkd10
          case hykd10 => (intro w hSw; (try dsimp only at hSw); go_simp; (try (first | with_reducible rfl | rw [if_neg (by omega)])))
          try simp only [Act.put, List.getElem_toArray, List.getElem_cons_succ, List.getElem_cons_zero, List.setIfInBounds_toArray, List.set_cons_zero, List.set_cons_succ]
          refine Held.take (k := 1) (i := 1) (v := ?vkd11) noskd1 okkkd1_1 sizkd1 (by kernel_rfl) rfl (fun _ _ _ h => h) (Or.inl ⟨by kernel_rfl, ?hykd11⟩) (by assumption) ?restkd11
          case hykd11 => (intro w hSw; (try dsimp only at hSw); go_simp; (try (first | with_reducible rfl | rw [if_neg (by omega)])))
          try simp only [Act.put, List.getElem_toArray, List.getElem_cons_succ, List.getElem_cons_zero, List.setIfInBounds_toArray, List.set_cons_zero, List.set_cons_succ]
          refine Held.only (k := 2) (i := 2) rdykd1_2 (by kernel_rfl) rfl (by kernel_rfl) (fun K hK => ?_)
          go_simp
          go_at_call 40
          with_reducible refine (refIs_below a_ _ HNa_ (by omega) _).mono ?_
          rintro e w3 ⟨rfl, hbx⟩
          replace u0 := cell_below hbx u0
          replace u1 := cell_below hbx u1
          replace u2 := cell_below hbx u2
          replace u3 := cell_below hbx u3
          replace u4 := cell_below hbx u4
          replace u5 := cell_below hbx u5
          replace u6 := cell_below hbx u6
          replace hbX := hcall hbX hbx
          replace D := below_call D hbx
          refine hK.out _ _ (by (try dsimp only); (exact ⟨u0, u1, u2, u3, u4, u5, u6⟩)) (fun hHeld => ?_)
          clear hK K
          try simp only [Act.put, List.getElem_toArray, List.getElem_cons_succ, List.getElem_cons_zero, List.setIfInBounds_toArray, List.set_cons_zero, List.set_cons_succ]
          refine Held.take (k := 3) (i := 3) (v := ?vkd13) noskd1 okkkd1_3 sizkd1 (by kernel_rfl) rfl (fun _ _ _ h => h) (Or.inl ⟨by kernel_rfl, ?hykd13⟩) (by assumption) ?restkd13
          case hykd13 => (intro w hSw; (try dsimp only at hSw); go_simp; (try (first | with_reducible rfl | rw [if_neg (by omega)])))
          try simp only [Act.put, List.getElem_toArray, List.getElem_cons_succ, List.getElem_cons_zero, List.setIfInBounds_toArray, List.set_cons_zero, List.set_cons_succ]
          refine Held.take (k := 4) (i := 4) (v := ?vkd14) noskd1 okkkd1_4 sizkd1 (by kernel_rfl) rfl (fun _ _ _ h => h) (Or.inl ⟨by kernel_rfl, ?hykd14⟩) (by assumption) ?restkd14
          case hykd14 => (intro w hSw; (try dsimp only at hSw); go_simp; (try (first | with_reducible rfl | rw [if_neg (by omega)])))
          try simp only [Act.put, List.getElem_toArray, List.getElem_cons_succ, List.getElem_cons_zero, List.setIfInBounds_toArray, List.set_cons_zero, List.set_cons_succ]
          refine Held.take (k := 5) (i := 5) (v := ?vkd15) noskd1 okkkd1_5 sizkd1 (by kernel_rfl) rfl (fun _ _ _ h => h) (Or.inl ⟨by kernel_rfl, ?hykd15⟩) (by assumption) ?restkd15
          case hykd15 => (intro w hSw; (try dsimp only at hSw); go_simp; (try (first | with_reducible rfl | rw [if_neg (by omega)])))
          try simp only [Act.put, List.getElem_toArray, List.getElem_cons_succ, List.getElem_cons_zero, List.setIfInBounds_toArray, List.set_cons_zero, List.set_cons_succ]
          refine Held.take (k := 6) (i := 6) (v := ?vkd16) noskd1 okkkd1_6 sizkd1 (by kernel_rfl) rfl (fun _ _ _ h => h) (Or.inl ⟨by kernel_rfl, ?hykd16⟩) (by assumption) ?restkd16
          case hykd16 => (intro w hSw; (try dsimp only at hSw); go_simp; (try (first | with_reducible rfl | rw [if_neg (by omega)])))
          try simp only [Act.put, List.getElem_toArray, List.getElem_cons_succ, List.getElem_cons_zero, List.setIfInBounds_toArray, List.set_cons_zero, List.set_cons_succ]
          refine Held.only (k := 7) (i := 7) rdykd1_7 (by kernel_rfl) rfl (by kernel_rfl) (fun K hK => ?_)
          go_simp
          go_at_call 40
          with_reducible refine (refIs_below b_ _ HNb_ (by omega) _).mono ?_
          rintro e w4 ⟨rfl, hbx⟩
          replace u0 := cell_below hbx u0
          replace u1 := cell_below hbx u1
          replace u2 := cell_below hbx u2
          replace u3 := cell_below hbx u3
          replace u4 := cell_below hbx u4
          replace u5 := cell_below hbx u5
          replace u6 := cell_below hbx u6
          replace hbX := hcall hbX hbx
          replace D := below_call D hbx
          refine hK.out _ _ (by (try dsimp only); (exact ⟨u0, u1, u2, u3, u4, u5, u6⟩)) (fun hHeld => ?_)
          clear hK K
          try simp only [Act.put, List.getElem_toArray, List.getElem_cons_succ, List.getElem_cons_zero, List.setIfInBounds_toArray, List.set_cons_zero, List.set_cons_succ]
          refine Held.take (k := 8) (i := 8) (v := ?vkd18) noskd1 okkkd1_8 sizkd1 (by kernel_rfl) rfl (fun _ _ _ h => h) (Or.inl ⟨by kernel_rfl, ?hykd18⟩) (by assumption) ?restkd18
          case hykd18 => (intro w hSw; (try dsimp only at hSw); go_simp; (try (first | with_reducible rfl | rw [if_neg (by omega)])))
          try simp only [Act.put, List.getElem_toArray, List.getElem_cons_succ, List.getElem_cons_zero, List.setIfInBounds_toArray, List.set_cons_zero, List.set_cons_succ]
          refine Held.take (k := 9) (i := 9) (v := ?vkd19) noskd1 okkkd1_9 sizkd1 (by kernel_rfl) rfl (fun _ _ _ h => h) (Or.inl ⟨by kernel_rfl, ?hykd19⟩) (by assumption) ?restkd19
          case hykd19 => (intro w hSw; (try dsimp only at hSw); go_simp; (try (first | with_reducible rfl | rw [if_neg (by omega)])))
          try simp only [Act.put, List.getElem_toArray, List.getElem_cons_succ, List.getElem_cons_zero, List.setIfInBounds_toArray, List.set_cons_zero, List.set_cons_succ]
          refine Held.take (k := 10) (i := 10) (v := ?vkd110) noskd1 okkkd1_10 sizkd1 (by kernel_rfl) rfl (fun _ _ _ h => h) (Or.inl ⟨by kernel_rfl, ?hykd110⟩) (by assumption) ?restkd110
          case hykd110 => (intro w hSw; (try dsimp only at hSw); go_simp; (try (first | with_reducible rfl | rw [if_neg (by omega)])))
          try simp only [Act.put, List.getElem_toArray, List.getElem_cons_succ, List.getElem_cons_zero, List.setIfInBounds_toArray, List.set_cons_zero, List.set_cons_succ]
          refine Held.take (k := 11) (i := 11) (v := ?vkd111) noskd1 okkkd1_11 sizkd1 (by kernel_rfl) rfl (fun _ _ _ h => h) (Or.inl ⟨by kernel_rfl, ?hykd111⟩) (by assumption) ?restkd111
          case hykd111 => (intro w hSw; (try dsimp only at hSw); go_simp; (try (first | with_reducible rfl | rw [if_neg (by omega)])))
          try simp only [Act.put, List.getElem_toArray, List.getElem_cons_succ, List.getElem_cons_zero, List.setIfInBounds_toArray, List.set_cons_zero, List.set_cons_succ]
          refine Held.take (k := 12) (i := 12) (v := ?vkd112) noskd1 okkkd1_12 sizkd1 (by kernel_rfl) rfl (fun _ _ _ h => h) (Or.inl ⟨by kernel_rfl, ?hykd112⟩) (by assumption) ?restkd112
          case hykd112 => (intro w hSw; (try dsimp only at hSw); go_simp; (try (first | with_reducible rfl | rw [if_neg (by omega)])))
          try simp only [Act.put, List.getElem_toArray, List.getElem_cons_succ, List.getElem_cons_zero, List.setIfInBounds_toArray, List.set_cons_zero, List.set_cons_succ]
          refine Held.take (k := 13) (i := 13) (v := ?vkd113) noskd1 okkkd1_13 sizkd1 (by kernel_rfl) rfl (fun _ _ _ h => h) (Or.inl ⟨by kernel_rfl, ?hykd113⟩) (by assumption) ?restkd113
          case hykd113 => (intro w hSw; (try dsimp only at hSw); go_simp; (try (first | with_reducible rfl | rw [if_neg (by omega)])))
          try simp only [Act.put, List.getElem_toArray, List.getElem_cons_succ, List.getElem_cons_zero, List.setIfInBounds_toArray, List.set_cons_zero, List.set_cons_succ]
          refine Held.take (k := 14) (i := 14) (v := ?vkd114) noskd1 okkkd1_14 sizkd1 (by kernel_rfl) rfl (fun _ _ _ h => h) (Or.inl ⟨by kernel_rfl, ?hykd114⟩) (by assumption) ?restkd114
          case hykd114 => (intro w hSw; (try dsimp only at hSw); go_simp; (try (first | with_reducible rfl | rw [if_neg (by omega)])))
          try simp only [Act.put, List.getElem_toArray, List.getElem_cons_succ, List.getElem_cons_zero, List.setIfInBounds_toArray, List.set_cons_zero, List.set_cons_succ]
          refine Held.take (k := 15) (i := 15) (v := ?vkd115) noskd1 okkkd1_15 sizkd1 (by kernel_rfl) rfl (fun _ _ _ h => h) (Or.inl ⟨by kernel_rfl, ?hykd115⟩) (by assumption) ?restkd115
          case hykd115 => (intro w hSw; (try dsimp only at hSw); go_simp; (try (first | with_reducible rfl | rw [if_neg (by omega)])))
          try simp only [Act.put, List.getElem_toArray, List.getElem_cons_succ, List.getElem_cons_zero, List.setIfInBounds_toArray, List.set_cons_zero, List.set_cons_succ]
          refine Held.take (k := 16) (i := 16) (v := ?vkd116) noskd1 okkkd1_16 sizkd1 (by kernel_rfl) rfl (fun _ _ _ h => h) (Or.inl ⟨by kernel_rfl, ?hykd116⟩) (by assumption) ?restkd116
          case hykd116 => (intro w hSw; (try dsimp only at hSw); go_simp; (try (first | with_reducible rfl | rw [if_neg (by omega)])))
          try simp only [Act.put, List.getElem_toArray, List.getElem_cons_succ, List.getElem_cons_zero, List.setIfInBounds_toArray, List.set_cons_zero, List.set_cons_succ]
          refine Held.take (k := 17) (i := 17) (v := ?vkd117) noskd1 okkkd1_17 sizkd1 (by kernel_rfl) rfl (fun _ _ _ h => h) (Or.inl ⟨by kernel_rfl, ?hykd117⟩) (by assumption) ?restkd117
          case hykd117 => (intro w hSw; (try dsimp only at hSw); go_simp; (try (first | with_reducible rfl | rw [if_neg (by omega)])))
          try simp only [Act.put, List.getElem_toArray, List.getElem_cons_succ, List.getElem_cons_zero, List.setIfInBounds_toArray, List.set_cons_zero, List.set_cons_succ]
          refine Held.take (k := 18) (i := 18) (v := ?vkd118) noskd1 okkkd1_18 sizkd1 (by kernel_rfl) rfl (fun _ _ _ h => h) (Or.inl ⟨by kernel_rfl, ?hykd118⟩) (by assumption) ?restkd118
          case hykd118 => (intro w hSw; (try dsimp only at hSw); go_simp; (try (first | with_reducible rfl | rw [if_neg (by omega)])))
          try simp only [Act.put, List.getElem_toArray, List.getElem_cons_succ, List.getElem_cons_zero, List.setIfInBounds_toArray, List.set_cons_zero, List.set_cons_succ]
          refine Held.take (k := 19) (i := 19) (v := ?vkd119) noskd1 okkkd1_19 sizkd1 (by kernel_rfl) rfl (fun _ _ _ h => h) (Or.inl ⟨by kernel_rfl, ?hykd119⟩) (by assumption) ?restkd119
          case hykd119 => (intro w hSw; (try dsimp only at hSw); go_simp; (try (first | with_reducible rfl | rw [if_neg (by omega)])))
          try simp only [Act.put, List.getElem_toArray, List.getElem_cons_succ, List.getElem_cons_zero, List.setIfInBounds_toArray, List.set_cons_zero, List.set_cons_succ]
          refine Held.take (k := 20) (i := 20) (v := ?vkd120) noskd1 okkkd1_20 sizkd1 (by kernel_rfl) rfl (fun _ _ _ h => h) (Or.inl ⟨by kernel_rfl, ?hykd120⟩) (by assumption) ?restkd120
          case hykd120 => (intro w hSw; (try dsimp only at hSw); go_simp; (try (first | with_reducible rfl | rw [if_neg (by omega)])))
          try simp only [Act.put, List.getElem_toArray, List.getElem_cons_succ, List.getElem_cons_zero, List.setIfInBounds_toArray, List.set_cons_zero, List.set_cons_succ]
          refine Held.take (k := 21) (i := 21) (v := undef) noskd1 okkkd1_21 sizkd1 (by kernel_rfl) rfl (fun _ _ _ h => h) (Or.inr ⟨by kernel_rfl, rfl⟩) (by assumption) ?_
          try simp only [Act.put, List.getElem_toArray, List.getElem_cons_succ, List.getElem_cons_zero, List.setIfInBounds_toArray, List.set_cons_zero, List.set_cons_succ]
          refine Held.take (k := 22) (i := 22) (v := undef) noskd1 okkkd1_22 sizkd1 (by kernel_rfl) rfl (fun _ _ _ h => h) (Or.inr ⟨by kernel_rfl, rfl⟩) (by assumption) ?_
          try simp only [Act.put, List.getElem_toArray, List.getElem_cons_succ, List.getElem_cons_zero, List.setIfInBounds_toArray, List.set_cons_zero, List.set_cons_succ]
          refine Held.take (k := 23) (i := 23) (v := undef) noskd1 okkkd1_23 sizkd1 (by kernel_rfl) rfl (fun _ _ _ h => h) (Or.inr ⟨by kernel_rfl, rfl⟩) (by assumption) ?_
          try simp only [Act.put, List.getElem_toArray, List.getElem_cons_succ, List.getElem_cons_zero, List.setIfInBounds_toArray, List.set_cons_zero, List.set_cons_succ]
          refine Held.take (k := 24) (i := 24) (v := undef) noskd1 okkkd1_24 sizkd1 (by kernel_rfl) rfl (fun _ _ _ h => h) (Or.inr ⟨by kernel_rfl, rfl⟩) (by assumption) ?_
          try simp only [Act.put, List.getElem_toArray, List.getElem_cons_succ, List.getElem_cons_zero, List.setIfInBounds_toArray, List.set_cons_zero, List.set_cons_succ]
          refine Held.take (k := 25) (i := 25) (v := undef) noskd1 okkkd1_25 sizkd1 (by kernel_rfl) rfl (fun _ _ _ h => h) (Or.inr ⟨by kernel_rfl, rfl⟩) (by assumption) ?_
          try simp only [Act.put, List.getElem_toArray, List.getElem_cons_succ, List.getElem_cons_zero, List.setIfInBounds_toArray, List.set_cons_zero, List.set_cons_succ]
          refine Held.take (k := 26) (i := 26) (v := undef) noskd1 okkkd1_26 sizkd1 (by kernel_rfl) rfl (fun _ _ _ h => h) (Or.inr ⟨by kernel_rfl, rfl⟩) (by assumption) ?_
          try simp only [Act.put, List.getElem_toArray, List.getElem_cons_succ, List.getElem_cons_zero, List.setIfInBounds_toArray, List.set_cons_zero, List.set_cons_succ]
          refine Held.take (k := 27) (i := 27) (v := undef) noskd1 okkkd1_27 sizkd1 (by kernel_rfl) rfl (fun _ _ _ h => h) (Or.inr ⟨by kernel_rfl, rfl⟩) (by assumption) ?_
          try simp only [Act.put, List.getElem_toArray, List.getElem_cons_succ, List.getElem_cons_zero, List.setIfInBounds_toArray, List.set_cons_zero, List.set_cons_succ]
          refine Held.take (k := 28) (i := 28) (v := undef) noskd1 okkkd1_28 sizkd1 (by kernel_rfl) rfl (fun _ _ _ h => h) (Or.inr ⟨by kernel_rfl, rfl⟩) (by assumption) ?_
          try simp only [Act.put, List.getElem_toArray, List.getElem_cons_succ, List.getElem_cons_zero, List.setIfInBounds_toArray, List.set_cons_zero, List.set_cons_succ]
          refine Held.take (k := 29) (i := 29) (v := ?vkd129) noskd1 okkkd1_29 sizkd1 (by kernel_rfl) rfl (fun _ _ _ h => h) (Or.inl ⟨by kernel_rfl, ?hykd129⟩) (by assumption) ?restkd129
          case hykd129 => (intro w hSw; (try dsimp only at hSw); go_simp; (try (first | with_reducible rfl | rw [if_neg (by omega)])))
          try simp only [Act.put, List.getElem_toArray, List.getElem_cons_succ, List.getElem_cons_zero, List.setIfInBounds_toArray, List.set_cons_zero, List.set_cons_succ]
          refine Held.take (k := 30) (i := 30) (v := ?vkd130) noskd1 okkkd1_30 sizkd1 (by kernel_rfl) rfl (fun _ _ _ h => h) (Or.inl ⟨by kernel_rfl, ?hykd130⟩) (by assumption) ?restkd130
          case hykd130 => (intro w hSw; (try dsimp only at hSw); go_simp; (try (first | with_reducible rfl | rw [if_neg (by omega)])))
          try simp only [Act.put, List.getElem_toArray, List.getElem_cons_succ, List.getElem_cons_zero, List.setIfInBounds_toArray, List.set_cons_zero, List.set_cons_succ]
          refine Held.take (k := 31) (i := 31) (v := ?vkd131) noskd1 okkkd1_31 sizkd1 (by kernel_rfl) rfl (fun _ _ _ h => h) (Or.inl ⟨by kernel_rfl, ?hykd131⟩) (by assumption) ?restkd131
          case hykd131 => (intro w hSw; (try dsimp only at hSw); go_simp; (try (first | with_reducible rfl | rw [if_neg (by omega)])))
          try simp only [Act.put, List.getElem_toArray, List.getElem_cons_succ, List.getElem_cons_zero, List.setIfInBounds_toArray, List.set_cons_zero, List.set_cons_succ]
          refine Held.take (k := 32) (i := 32) (v := ?vkd132) noskd1 okkkd1_32 sizkd1 (by kernel_rfl) rfl (fun _ _ _ h => h) (Or.inl ⟨by kernel_rfl, ?hykd132⟩) (by assumption) ?restkd132
          case hykd132 => (intro w hSw; (try dsimp only at hSw); go_simp; (try (first | with_reducible rfl | rw [if_neg (by omega)])))
          try simp only [Act.put, List.getElem_toArray, List.getElem_cons_succ, List.getElem_cons_zero, List.setIfInBounds_toArray, List.set_cons_zero, List.set_cons_succ]
          refine Held.take (k := 33) (i := 33) (v := ?vkd133) noskd1 okkkd1_33 sizkd1 (by kernel_rfl) rfl (fun _ _ _ h => h) (Or.inl ⟨by kernel_rfl, ?hykd133⟩) (by assumption) ?restkd133
          case hykd133 => (intro w hSw; (try dsimp only at hSw); go_simp; (try (first | with_reducible rfl | rw [if_neg (by omega)])))
          try simp only [Act.put, List.getElem_toArray, List.getElem_cons_succ, List.getElem_cons_zero, List.setIfInBounds_toArray, List.set_cons_zero, List.set_cons_succ]
          refine Held.take (k := 34) (i := 34) (v := ?vkd134) noskd1 okkkd1_34 sizkd1 (by kernel_rfl) rfl (fun _ _ _ h => h) (Or.inl ⟨by kernel_rfl, ?hykd134⟩) (by assumption) ?restkd134
          case hykd134 => (intro w hSw; (try dsimp only at hSw); go_simp; (try (first | with_reducible rfl | rw [if_neg (by omega)])))
          try simp only [Act.put, List.getElem_toArray, List.getElem_cons_succ, List.getElem_cons_zero, List.setIfInBounds_toArray, List.set_cons_zero, List.set_cons_succ]
          refine Held.only (k := 35) (i := 35) rdykd1_35 (by kernel_rfl) rfl (by kernel_rfl) (fun K hK => ?_)
          go_simp
          go_at_call 18
          with_reducible refine (refOfLen n c _ l a_ _ (hl.below D) hn m HM).mono ?_
          rintro e w5 ⟨⟨Ao, co, rfl⟩, hbx⟩
          replace u0 := cell_below hbx u0
          replace u1 := cell_below hbx u1
          replace u2 := cell_below hbx u2
          replace u3 := cell_below hbx u3
          replace u4 := cell_below hbx u4
          replace u5 := cell_below hbx u5
          replace u6 := cell_below hbx u6
          replace hbX := hcall hbX hbx
          replace D := below_call D hbx
          refine hK.out _ _ (by (try dsimp only); (exact ⟨u0, u1, u2, u3, u4, u5, u6⟩)) (fun hHeld => ?_)
          clear hK K
          try simp only [Act.put, List.getElem_toArray, List.getElem_cons_succ, List.getElem_cons_zero, List.setIfInBounds_toArray, List.set_cons_zero, List.set_cons_succ]
          refine Held.take (k := 36) (i := 36) (v := ?vkd136) noskd1 okkkd1_36 sizkd1 (by kernel_rfl) rfl (fun _ _ _ h => h) (Or.inl ⟨by kernel_rfl, ?hykd136⟩) (by assumption) ?restkd136
          case hykd136 => (intro w hSw; (try dsimp only at hSw); go_simp; (try (first | with_reducible rfl | rw [if_neg (by omega)])))
          try simp only [Act.put, List.getElem_toArray, List.getElem_cons_succ, List.getElem_cons_zero, List.setIfInBounds_toArray, List.set_cons_zero, List.set_cons_succ]
          refine Held.take (k := 37) (i := 37) (v := ?vkd137) noskd1 okkkd1_37 sizkd1 (by kernel_rfl) rfl (fun _ _ _ h => h) (Or.inl ⟨by kernel_rfl, ?hykd137⟩) (by assumption) ?restkd137
          case hykd137 => (intro w hSw; (try dsimp only at hSw); go_simp; (try (first | with_reducible rfl | rw [if_neg (by omega)])))
          try simp only [Act.put, List.getElem_toArray, List.getElem_cons_succ, List.getElem_cons_zero, List.setIfInBounds_toArray, List.set_cons_zero, List.set_cons_succ]
          refine Held.take (k := 38) (i := 38) (v := ?vkd138) noskd1 okkkd1_38 sizkd1 (by kernel_rfl) rfl (fun _ _ _ h => h) (Or.inl ⟨by kernel_rfl, ?hykd138⟩) (by assumption) ?restkd138
          case hykd138 => (intro w hSw; (try dsimp only at hSw); go_simp; (try (first | with_reducible rfl | rw [if_neg (by omega)])))
          try simp only [Act.put, List.getElem_toArray, List.getElem_cons_succ, List.getElem_cons_zero, List.setIfInBounds_toArray, List.set_cons_zero, List.set_cons_succ]
          refine wpAnyH_done (by kernel_rfl) ?_ _
          clear u0 u1 u2 u3 u4 u5 u6
          obtain ⟨u0, u1, u2, u3, u4, u5, u6, uz⟩ := cellsEn a_ b_ c_ d_ e_ f_ g_ hbX
          go_wp2_with fail
          with_reducible refine (HGET.out _ (hl.below D)).mono ?_
          rintro e w6 ⟨rfl, b6⟩
          replace hbX := hcall hbX b6
          replace D := below_call D b6
          clear b6 u0 u1 u2 u3 u4 u5 u6 uz
          have hy := heap_alloc_new w6 (bxIt c' d' e' f' g')
          replace hbX := halloc hbX (bxIt c' d' e' f' g')
          replace D := below_alloc0 D (bxIt c' d' e' f' g')
          obtain ⟨u0, u1, u2, u3, u4, u5, u6, uz⟩ := cellsEn a_ b_ c_ d_ e_ f_ g_ hbX
          obtain ⟨⟨y0, y1, y2, y3, y4⟩, -, yz⟩ := iopen hy
          go_wp2_with fail
          with_reducible refine (re_ (hasRo_calls n c _ l b_ a_ _ (hl.below D)) (ret_bool HG2.out)).mono ?_
          rintro e w7 ⟨rfl, b7⟩
          replace hbX := hcall hbX b7
          replace hy := hcall hy b7
          replace D := below_call D b7
          clear b7 u0 u1 u2 u3 u4 u5 u6 uz y0 y1 y2 y3 y4 yz
          cases hh with
          | false =>
            have HF : Hid (r = false) := by
              show _ = _
              rw [← HR.out]
              exact mayRo_no_one (List.getElem_mem hil) (by rw [HCE.out]; simp)
            go_wp2
            go_ret
            rw [HF.out]
            exact ⟨rfl, D⟩
          | true =>
          obtain ⟨ft, hft⟩ : ∃ b, fitI ⟨c_, d_, e_, f_, g_⟩ ⟨c', d', e', f', g'⟩ = b := ⟨_, rfl⟩
          have HFT := Lib.hid hft
          clear hft
          obtain ⟨u0, u1, u2, u3, u4, u5, u6, uz⟩ := cellsEn a_ b_ c_ d_ e_ f_ g_ hbX
          obtain ⟨⟨y0, y1, y2, y3, y4⟩, -, yz⟩ := iopen hy
          go_wp2_with fail
          with_reducible refine (re_ (refMayI_calls c_ d_ e_ f_ g_ c' d' e' f' g' _) (ret_bool HFT.out)).mono ?_
          rintro e w8 ⟨rfl, b8⟩
          replace hbX := hcall hbX b8
          replace hy := hcall hy b8
          replace D := below_call D b8
          clear b8 u0 u1 u2 u3 u4 u5 u6 uz y0 y1 y2 y3 y4 yz
          cases ft with
          | false =>
            have HF : Hid (r = false) := by
              show _ = _
              rw [← HR.out]
              exact mayRo_no_one (List.getElem_mem hil) (by rw [HCE.out, HFT.out]; simp)
            go_wp2
            go_ret
            rw [HF.out]
            exact ⟨rfl, D⟩
          | true =>
          obtain ⟨m1, hm1⟩ : ∃ b, emptyI ⟨c_, d_, e_, f_, g_⟩ = b := ⟨_, rfl⟩
          have HM1 := Lib.hid hm1
          clear hm1
          obtain ⟨u0, u1, u2, u3, u4, u5, u6, uz⟩ := cellsEn a_ b_ c_ d_ e_ f_ g_ hbX
          obtain ⟨⟨y0, y1, y2, y3, y4⟩, -, yz⟩ := iopen hy
          go_wp2_with fail
          with_reducible refine (re_ (refEmptyI_calls c_ d_ e_ f_ g_ _) (ret_bool HM1.out)).mono ?_
          rintro e w9 ⟨rfl, b9⟩
          replace hbX := hcall hbX b9
          replace hy := hcall hy b9
          replace D := below_call D b9
          clear b9 u0 u1 u2 u3 u4 u5 u6 uz y0 y1 y2 y3 y4 yz
          cases m1 with
          | false =>
            have HK2 : Hid (∀ j (h : j < l.length), j < i + 1 → oneRo l l[j] = true) := fun j h hj => by
              rcases Nat.lt_or_ge j i with h' | h'
              · exact HK.out j h h'
              · obtain rfl : j = i := by omega
                rw [HCE.out, HFT.out, HM1.out, decide_eq_true hm16]
                rfl
            go_wp2
            exact ⟨⟨i + 1, by go_num, by omega, D, HK2, HJ2⟩, by simp [intOf]; omega⟩
          | true =>
          obtain ⟨m2, hm2⟩ : ∃ b, emptyI ⟨c', d', e', f', g'⟩ = b := ⟨_, rfl⟩
          have HM2 := Lib.hid hm2
          clear hm2
          obtain ⟨u0, u1, u2, u3, u4, u5, u6, uz⟩ := cellsEn a_ b_ c_ d_ e_ f_ g_ hbX
          obtain ⟨⟨y0, y1, y2, y3, y4⟩, -, yz⟩ := iopen hy
          go_wp2_with fail
          with_reducible refine (re_ (refEmptyI_calls c' d' e' f' g' _) (ret_bool HM2.out)).mono ?_
          rintro e w10 ⟨rfl, b10⟩
          replace hbX := hcall hbX b10
          replace hy := hcall hy b10
          replace D := below_call D b10
          clear b10 u0 u1 u2 u3 u4 u5 u6 uz y0 y1 y2 y3 y4 yz
          cases m2 with
          | false =>
            have HK2 : Hid (∀ j (h : j < l.length), j < i + 1 → oneRo l l[j] = true) := fun j h hj => by
              rcases Nat.lt_or_ge j i with h' | h'
              · exact HK.out j h h'
              · obtain rfl : j = i := by omega
                rw [HCE.out, HFT.out, HM1.out, decide_eq_true hm16]
                rw [HM2.out]
                rfl
            go_wp2
            exact ⟨⟨i + 1, by go_num, by omega, D, HK2, HJ2⟩, by simp [intOf]; omega⟩
          | true =>
            have HF : Hid (r = false) := by
              show _ = _
              rw [← HR.out]
              exact mayRo_no_one (List.getElem_mem hil) (by rw [HCE.out, HFT.out, HM1.out, HM2.out]; simp)
            go_wp2
            go_ret
            rw [HF.out]
            exact ⟨rfl, D⟩
        · have d1 : decide ((16 : Int) < (m : Int)) = true := decide_eq_true (by omega)
          have d2 : decide (16 < m) = true := decide_eq_true (by omega)
          have HF : Hid (r = false) := by
            show _ = _
            rw [← HR.out]
            exact mayRo_no_one (List.getElem_mem hil) (by rw [HCE.out, decide_eq_false hm16]; rfl)
          clear uz
          replace hbX : (wr.alloc (bxEn a_ b_ c_ d_ e_ f_ g_)).drew.heap[_]? = _ := hbX
          replace D : Below _ _ (wr.alloc (bxEn a_ b_ c_ d_ e_ f_ g_)).drew := D.drew
          go_wp2_with fail
          refine Held.start (ops := opskd2) (S := fun w' => w'.cell? ⟨wr.heap.size, 0, none⟩ = some (.string a_) ∧ w'.cell? ⟨wr.heap.size, 1, none⟩ = some (.string b_) ∧ w'.cell? ⟨wr.heap.size, 2, none⟩ = some (.bool c_) ∧ w'.cell? ⟨wr.heap.size, 3, none⟩ = some (.bool d_) ∧ w'.cell? ⟨wr.heap.size, 4, none⟩ = some (.bool e_) ∧ w'.cell? ⟨wr.heap.size, 5, none⟩ = some (.bool f_) ∧ w'.cell? ⟨wr.heap.size, 6, none⟩ = some (.bool g_)) ordkd2 39 (by kernel_rfl) sizkd2 (by kernel_rfl) ⟨u0, u1, u2, u3, u4, u5, u6⟩ (fun hHeld => ?_)
          refine Held.take (k := 0) (i := 0) (v := ?vkd20) noskd2 okkkd2_0 sizkd2 (by kernel_rfl) rfl (fun _ _ _ h => h) (Or.inl ⟨by kernel_rfl, ?hykd20⟩) (by assumption) ?restkd20
          case hykd20 => (intro w hSw; (try dsimp only at hSw); go_simp; (try (first | with_reducible rfl | rw [if_neg (by omega)])))
          try simp only [Act.put, List.getElem_toArray, List.getElem_cons_succ, List.getElem_cons_zero, List.setIfInBounds_toArray, List.set_cons_zero, List.set_cons_succ]
          refine Held.take (k := 1) (i := 1) (v := ?vkd21) noskd2 okkkd2_1 sizkd2 (by kernel_rfl) rfl (fun _ _ _ h => h) (Or.inl ⟨by kernel_rfl, ?hykd21⟩) (by assumption) ?restkd21
          case hykd21 => (intro w hSw; (try dsimp only at hSw); go_simp; (try (first | with_reducible rfl | rw [if_neg (by omega)])))
          try simp only [Act.put, List.getElem_toArray, List.getElem_cons_succ, List.getElem_cons_zero, List.setIfInBounds_toArray, List.set_cons_zero, List.set_cons_succ]
          refine Held.only (k := 2) (i := 2) rdykd2_2 (by kernel_rfl) rfl (by kernel_rfl) (fun K hK => ?_)
          go_simp
          go_at_call 40
          with_reducible refine (refIs_below a_ _ HNa_ (by omega) _).mono ?_
          rintro e w3 ⟨rfl, hbx⟩
          replace u0 := cell_below hbx u0
          replace u1 := cell_below hbx u1
          replace u2 := cell_below hbx u2
          replace u3 := cell_below hbx u3
          replace u4 := cell_below hbx u4
          replace u5 := cell_below hbx u5
          replace u6 := cell_below hbx u6
          replace hbX := hcall hbX hbx
          replace D := below_call D hbx
          refine hK.out _ _ (by (try dsimp only); (exact ⟨u0, u1, u2, u3, u4, u5, u6⟩)) (fun hHeld => ?_)
          clear hK K
          try simp only [Act.put, List.getElem_toArray, List.getElem_cons_succ, List.getElem_cons_zero, List.setIfInBounds_toArray, List.set_cons_zero, List.set_cons_succ]
          refine Held.take (k := 3) (i := 3) (v := ?vkd23) noskd2 okkkd2_3 sizkd2 (by kernel_rfl) rfl (fun _ _ _ h => h) (Or.inl ⟨by kernel_rfl, ?hykd23⟩) (by assumption) ?restkd23
          case hykd23 => (intro w hSw; (try dsimp only at hSw); go_simp; (try (first | with_reducible rfl | rw [if_neg (by omega)])))
          try simp only [Act.put, List.getElem_toArray, List.getElem_cons_succ, List.getElem_cons_zero, List.setIfInBounds_toArray, List.set_cons_zero, List.set_cons_succ]
          refine Held.take (k := 4) (i := 4) (v := ?vkd24) noskd2 okkkd2_4 sizkd2 (by kernel_rfl) rfl (fun _ _ _ h => h) (Or.inl ⟨by kernel_rfl, ?hykd24⟩) (by assumption) ?restkd24
          case hykd24 => (intro w hSw; (try dsimp only at hSw); go_simp; (try (first | with_reducible rfl | rw [if_neg (by omega)])))
          try simp only [Act.put, List.getElem_toArray, List.getElem_cons_succ, List.getElem_cons_zero, List.setIfInBounds_toArray, List.set_cons_zero, List.set_cons_succ]
          refine Held.take (k := 5) (i := 5) (v := ?vkd25) noskd2 okkkd2_5 sizkd2 (by kernel_rfl) rfl (fun _ _ _ h => h) (Or.inl ⟨by kernel_rfl, ?hykd25⟩) (by assumption) ?restkd25
          case hykd25 => (intro w hSw; (try dsimp only at hSw); go_simp; (try (first | with_reducible rfl | rw [if_neg (by omega)])))
          try simp only [Act.put, List.getElem_toArray, List.getElem_cons_succ, List.getElem_cons_zero, List.setIfInBounds_toArray, List.set_cons_zero, List.set_cons_succ]
          refine Held.take (k := 6) (i := 6) (v := ?vkd26) noskd2 okkkd2_6 sizkd2 (by kernel_rfl) rfl (fun _ _ _ h => h) (Or.inl ⟨by kernel_rfl, ?hykd26⟩) (by assumption) ?restkd26
          case hykd26 => (intro w hSw; (try dsimp only at hSw); go_simp; (try (first | with_reducible rfl | rw [if_neg (by omega)])))
          try simp only [Act.put, List.getElem_toArray, List.getElem_cons_succ, List.getElem_cons_zero, List.setIfInBounds_toArray, List.set_cons_zero, List.set_cons_succ]
          refine Held.only (k := 7) (i := 7) rdykd2_7 (by kernel_rfl) rfl (by kernel_rfl) (fun K hK => ?_)
          go_simp
          go_at_call 40
          with_reducible refine (refIs_below b_ _ HNb_ (by omega) _).mono ?_
          rintro e w4 ⟨rfl, hbx⟩
          replace u0 := cell_below hbx u0
          replace u1 := cell_below hbx u1
          replace u2 := cell_below hbx u2
          replace u3 := cell_below hbx u3
          replace u4 := cell_below hbx u4
          replace u5 := cell_below hbx u5
          replace u6 := cell_below hbx u6
          replace hbX := hcall hbX hbx
          replace D := below_call D hbx
          refine hK.out _ _ (by (try dsimp only); (exact ⟨u0, u1, u2, u3, u4, u5, u6⟩)) (fun hHeld => ?_)
          clear hK K
          try simp only [Act.put, List.getElem_toArray, List.getElem_cons_succ, List.getElem_cons_zero, List.setIfInBounds_toArray, List.set_cons_zero, List.set_cons_succ]
          refine Held.take (k := 8) (i := 8) (v := ?vkd28) noskd2 okkkd2_8 sizkd2 (by kernel_rfl) rfl (fun _ _ _ h => h) (Or.inl ⟨by kernel_rfl, ?hykd28⟩) (by assumption) ?restkd28
          case hykd28 => (intro w hSw; (try dsimp only at hSw); go_simp; (try (first | with_reducible rfl | rw [if_neg (by omega)])))
          try simp only [Act.put, List.getElem_toArray, List.getElem_cons_succ, List.getElem_cons_zero, List.setIfInBounds_toArray, List.set_cons_zero, List.set_cons_succ]
          refine Held.take (k := 9) (i := 9) (v := ?vkd29) noskd2 okkkd2_9 sizkd2 (by kernel_rfl) rfl (fun _ _ _ h => h) (Or.inl ⟨by kernel_rfl, ?hykd29⟩) (by assumption) ?restkd29
          case hykd29 => (intro w hSw; (try dsimp only at hSw); go_simp; (try (first | with_reducible rfl | rw [if_neg (by omega)])))
          try simp only [Act.put, List.getElem_toArray, List.getElem_cons_succ, List.getElem_cons_zero, List.setIfInBounds_toArray, List.set_cons_zero, List.set_cons_succ]
          refine Held.take (k := 10) (i := 10) (v := ?vkd210) noskd2 okkkd2_10 sizkd2 (by kernel_rfl) rfl (fun _ _ _ h => h) (Or.inl ⟨by kernel_rfl, ?hykd210⟩) (by assumption) ?restkd210
          case hykd210 => (intro w hSw; (try dsimp only at hSw); go_simp; (try (first | with_reducible rfl | rw [if_neg (by omega)])))
          try simp only [Act.put, List.getElem_toArray, List.getElem_cons_succ, List.getElem_cons_zero, List.setIfInBounds_toArray, List.set_cons_zero, List.set_cons_succ]
          refine Held.take (k := 11) (i := 11) (v := ?vkd211) noskd2 okkkd2_11 sizkd2 (by kernel_rfl) rfl (fun _ _ _ h => h) (Or.inl ⟨by kernel_rfl, ?hykd211⟩) (by assumption) ?restkd211
          case hykd211 => (intro w hSw; (try dsimp only at hSw); go_simp; (try (first | with_reducible rfl | rw [if_neg (by omega)])))
          try simp only [Act.put, List.getElem_toArray, List.getElem_cons_succ, List.getElem_cons_zero, List.setIfInBounds_toArray, List.set_cons_zero, List.set_cons_succ]
          refine Held.take (k := 12) (i := 12) (v := ?vkd212) noskd2 okkkd2_12 sizkd2 (by kernel_rfl) rfl (fun _ _ _ h => h) (Or.inl ⟨by kernel_rfl, ?hykd212⟩) (by assumption) ?restkd212
          case hykd212 => (intro w hSw; (try dsimp only at hSw); go_simp; (try (first | with_reducible rfl | rw [if_neg (by omega)])))
          try simp only [Act.put, List.getElem_toArray, List.getElem_cons_succ, List.getElem_cons_zero, List.setIfInBounds_toArray, List.set_cons_zero, List.set_cons_succ]
          refine Held.take (k := 13) (i := 13) (v := ?vkd213) noskd2 okkkd2_13 sizkd2 (by kernel_rfl) rfl (fun _ _ _ h => h) (Or.inl ⟨by kernel_rfl, ?hykd213⟩) (by assumption) ?restkd213
          case hykd213 => (intro w hSw; (try dsimp only at hSw); go_simp; (try (first | with_reducible rfl | rw [if_neg (by omega)])))
          try simp only [Act.put, List.getElem_toArray, List.getElem_cons_succ, List.getElem_cons_zero, List.setIfInBounds_toArray, List.set_cons_zero, List.set_cons_succ]
          refine Held.take (k := 14) (i := 14) (v := ?vkd214) noskd2 okkkd2_14 sizkd2 (by kernel_rfl) rfl (fun _ _ _ h => h) (Or.inl ⟨by kernel_rfl, ?hykd214⟩) (by assumption) ?restkd214
          case hykd214 => (intro w hSw; (try dsimp only at hSw); go_simp; (try (first | with_reducible rfl | rw [if_neg (by omega)])))
          try simp only [Act.put, List.getElem_toArray, List.getElem_cons_succ, List.getElem_cons_zero, List.setIfInBounds_toArray, List.set_cons_zero, List.set_cons_succ]
          refine Held.take (k := 15) (i := 15) (v := ?vkd215) noskd2 okkkd2_15 sizkd2 (by kernel_rfl) rfl (fun _ _ _ h => h) (Or.inl ⟨by kernel_rfl, ?hykd215⟩) (by assumption) ?restkd215
          case hykd215 => (intro w hSw; (try dsimp only at hSw); go_simp; (try (first | with_reducible rfl | rw [if_neg (by omega)])))
          try simp only [Act.put, List.getElem_toArray, List.getElem_cons_succ, List.getElem_cons_zero, List.setIfInBounds_toArray, List.set_cons_zero, List.set_cons_succ]
          refine Held.take (k := 16) (i := 16) (v := ?vkd216) noskd2 okkkd2_16 sizkd2 (by kernel_rfl) rfl (fun _ _ _ h => h) (Or.inl ⟨by kernel_rfl, ?hykd216⟩) (by assumption) ?restkd216
          case hykd216 => (intro w hSw; (try dsimp only at hSw); go_simp; (try (first | with_reducible rfl | rw [if_neg (by omega)])))
          try simp only [Act.put, List.getElem_toArray, List.getElem_cons_succ, List.getElem_cons_zero, List.setIfInBounds_toArray, List.set_cons_zero, List.set_cons_succ]
          refine Held.take (k := 17) (i := 17) (v := ?vkd217) noskd2 okkkd2_17 sizkd2 (by kernel_rfl) rfl (fun _ _ _ h => h) (Or.inl ⟨by kernel_rfl, ?hykd217⟩) (by assumption) ?restkd217
          case hykd217 => (intro w hSw; (try dsimp only at hSw); go_simp; (try (first | with_reducible rfl | rw [if_neg (by omega)])))
          try simp only [Act.put, List.getElem_toArray, List.getElem_cons_succ, List.getElem_cons_zero, List.setIfInBounds_toArray, List.set_cons_zero, List.set_cons_succ]
          refine Held.take (k := 18) (i := 18) (v := ?vkd218) noskd2 okkkd2_18 sizkd2 (by kernel_rfl) rfl (fun _ _ _ h => h) (Or.inl ⟨by kernel_rfl, ?hykd218⟩) (by assumption) ?restkd218
          case hykd218 => (intro w hSw; (try dsimp only at hSw); go_simp; (try (first | with_reducible rfl | rw [if_neg (by omega)])))
          try simp only [Act.put, List.getElem_toArray, List.getElem_cons_succ, List.getElem_cons_zero, List.setIfInBounds_toArray, List.set_cons_zero, List.set_cons_succ]
          refine Held.take (k := 19) (i := 19) (v := ?vkd219) noskd2 okkkd2_19 sizkd2 (by kernel_rfl) rfl (fun _ _ _ h => h) (Or.inl ⟨by kernel_rfl, ?hykd219⟩) (by assumption) ?restkd219
          case hykd219 => (intro w hSw; (try dsimp only at hSw); go_simp; (try (first | with_reducible rfl | rw [if_neg (by omega)])))
          try simp only [Act.put, List.getElem_toArray, List.getElem_cons_succ, List.getElem_cons_zero, List.setIfInBounds_toArray, List.set_cons_zero, List.set_cons_succ]
          refine Held.take (k := 20) (i := 20) (v := ?vkd220) noskd2 okkkd2_20 sizkd2 (by kernel_rfl) rfl (fun _ _ _ h => h) (Or.inl ⟨by kernel_rfl, ?hykd220⟩) (by assumption) ?restkd220
          case hykd220 => (intro w hSw; (try dsimp only at hSw); go_simp; (try (first | with_reducible rfl | rw [if_neg (by omega)])))
          try simp only [Act.put, List.getElem_toArray, List.getElem_cons_succ, List.getElem_cons_zero, List.setIfInBounds_toArray, List.set_cons_zero, List.set_cons_succ]
          refine Held.take (k := 21) (i := 21) (v := undef) noskd2 okkkd2_21 sizkd2 (by kernel_rfl) rfl (fun _ _ _ h => h) (Or.inr ⟨by kernel_rfl, rfl⟩) (by assumption) ?_
          try simp only [Act.put, List.getElem_toArray, List.getElem_cons_succ, List.getElem_cons_zero, List.setIfInBounds_toArray, List.set_cons_zero, List.set_cons_succ]
          refine Held.take (k := 22) (i := 22) (v := undef) noskd2 okkkd2_22 sizkd2 (by kernel_rfl) rfl (fun _ _ _ h => h) (Or.inr ⟨by kernel_rfl, rfl⟩) (by assumption) ?_
          try simp only [Act.put, List.getElem_toArray, List.getElem_cons_succ, List.getElem_cons_zero, List.setIfInBounds_toArray, List.set_cons_zero, List.set_cons_succ]
          refine Held.take (k := 23) (i := 23) (v := undef) noskd2 okkkd2_23 sizkd2 (by kernel_rfl) rfl (fun _ _ _ h => h) (Or.inr ⟨by kernel_rfl, rfl⟩) (by assumption) ?_
          try simp only [Act.put, List.getElem_toArray, List.getElem_cons_succ, List.getElem_cons_zero, List.setIfInBounds_toArray, List.set_cons_zero, List.set_cons_succ]
          refine Held.take (k := 24) (i := 24) (v := undef) noskd2 okkkd2_24 sizkd2 (by kernel_rfl) rfl (fun _ _ _ h => h) (Or.inr ⟨by kernel_rfl, rfl⟩) (by assumption) ?_
          try simp only [Act.put, List.getElem_toArray, List.getElem_cons_succ, List.getElem_cons_zero, List.setIfInBounds_toArray, List.set_cons_zero, List.set_cons_succ]
          refine Held.take (k := 25) (i := 25) (v := undef) noskd2 okkkd2_25 sizkd2 (by kernel_rfl) rfl (fun _ _ _ h => h) (Or.inr ⟨by kernel_rfl, rfl⟩) (by assumption) ?_
          try simp only [Act.put, List.getElem_toArray, List.getElem_cons_succ, List.getElem_cons_zero, List.setIfInBounds_toArray, List.set_cons_zero, List.set_cons_succ]
          refine Held.take (k := 26) (i := 26) (v := undef) noskd2 okkkd2_26 sizkd2 (by kernel_rfl) rfl (fun _ _ _ h => h) (Or.inr ⟨by kernel_rfl, rfl⟩) (by assumption) ?_
          try simp only [Act.put, List.getElem_toArray, List.getElem_cons_succ, List.getElem_cons_zero, List.setIfInBounds_toArray, List.set_cons_zero, List.set_cons_succ]
          refine Held.take (k := 27) (i := 27) (v := undef) noskd2 okkkd2_27 sizkd2 (by kernel_rfl) rfl (fun _ _ _ h => h) (Or.inr ⟨by kernel_rfl, rfl⟩) (by assumption) ?_
          try simp only [Act.put, List.getElem_toArray, List.getElem_cons_succ, List.getElem_cons_zero, List.setIfInBounds_toArray, List.set_cons_zero, List.set_cons_succ]
          refine Held.take (k := 28) (i := 28) (v := undef) noskd2 okkkd2_28 sizkd2 (by kernel_rfl) rfl (fun _ _ _ h => h) (Or.inr ⟨by kernel_rfl, rfl⟩) (by assumption) ?_
          try simp only [Act.put, List.getElem_toArray, List.getElem_cons_succ, List.getElem_cons_zero, List.setIfInBounds_toArray, List.set_cons_zero, List.set_cons_succ]
          refine Held.take (k := 29) (i := 29) (v := ?vkd229) noskd2 okkkd2_29 sizkd2 (by kernel_rfl) rfl (fun _ _ _ h => h) (Or.inl ⟨by kernel_rfl, ?hykd229⟩) (by assumption) ?restkd229
          case hykd229 => (intro w hSw; (try dsimp only at hSw); go_simp; (try (first | with_reducible rfl | rw [if_neg (by omega)])))
          try simp only [Act.put, List.getElem_toArray, List.getElem_cons_succ, List.getElem_cons_zero, List.setIfInBounds_toArray, List.set_cons_zero, List.set_cons_succ]
          refine Held.take (k := 30) (i := 30) (v := ?vkd230) noskd2 okkkd2_30 sizkd2 (by kernel_rfl) rfl (fun _ _ _ h => h) (Or.inl ⟨by kernel_rfl, ?hykd230⟩) (by assumption) ?restkd230
          case hykd230 => (intro w hSw; (try dsimp only at hSw); go_simp; (try (first | with_reducible rfl | rw [if_neg (by omega)])))
          try simp only [Act.put, List.getElem_toArray, List.getElem_cons_succ, List.getElem_cons_zero, List.setIfInBounds_toArray, List.set_cons_zero, List.set_cons_succ]
          refine Held.take (k := 31) (i := 31) (v := ?vkd231) noskd2 okkkd2_31 sizkd2 (by kernel_rfl) rfl (fun _ _ _ h => h) (Or.inl ⟨by kernel_rfl, ?hykd231⟩) (by assumption) ?restkd231
          case hykd231 => (intro w hSw; (try dsimp only at hSw); go_simp; (try (first | with_reducible rfl | rw [if_neg (by omega)])))
          try simp only [Act.put, List.getElem_toArray, List.getElem_cons_succ, List.getElem_cons_zero, List.setIfInBounds_toArray, List.set_cons_zero, List.set_cons_succ]
          refine Held.take (k := 32) (i := 32) (v := ?vkd232) noskd2 okkkd2_32 sizkd2 (by kernel_rfl) rfl (fun _ _ _ h => h) (Or.inl ⟨by kernel_rfl, ?hykd232⟩) (by assumption) ?restkd232
          case hykd232 => (intro w hSw; (try dsimp only at hSw); go_simp; (try (first | with_reducible rfl | rw [if_neg (by omega)])))
          try simp only [Act.put, List.getElem_toArray, List.getElem_cons_succ, List.getElem_cons_zero, List.setIfInBounds_toArray, List.set_cons_zero, List.set_cons_succ]
          refine Held.take (k := 33) (i := 33) (v := ?vkd233) noskd2 okkkd2_33 sizkd2 (by kernel_rfl) rfl (fun _ _ _ h => h) (Or.inl ⟨by kernel_rfl, ?hykd233⟩) (by assumption) ?restkd233
          case hykd233 => (intro w hSw; (try dsimp only at hSw); go_simp; (try (first | with_reducible rfl | rw [if_neg (by omega)])))
          try simp only [Act.put, List.getElem_toArray, List.getElem_cons_succ, List.getElem_cons_zero, List.setIfInBounds_toArray, List.set_cons_zero, List.set_cons_succ]
          refine Held.take (k := 34) (i := 34) (v := ?vkd234) noskd2 okkkd2_34 sizkd2 (by kernel_rfl) rfl (fun _ _ _ h => h) (Or.inl ⟨by kernel_rfl, ?hykd234⟩) (by assumption) ?restkd234
          case hykd234 => (intro w hSw; (try dsimp only at hSw); go_simp; (try (first | with_reducible rfl | rw [if_neg (by omega)])))
          try simp only [Act.put, List.getElem_toArray, List.getElem_cons_succ, List.getElem_cons_zero, List.setIfInBounds_toArray, List.set_cons_zero, List.set_cons_succ]
          refine Held.only (k := 35) (i := 35) rdykd2_35 (by kernel_rfl) rfl (by kernel_rfl) (fun K hK => ?_)
          go_simp
          go_at_call 18
          with_reducible refine (refOfLen n c _ l a_ _ (hl.below D) hn m HM).mono ?_
          rintro e w5 ⟨⟨Ao, co, rfl⟩, hbx⟩
          replace u0 := cell_below hbx u0
          replace u1 := cell_below hbx u1
          replace u2 := cell_below hbx u2
          replace u3 := cell_below hbx u3
          replace u4 := cell_below hbx u4
          replace u5 := cell_below hbx u5
          replace u6 := cell_below hbx u6
          replace hbX := hcall hbX hbx
          replace D := below_call D hbx
          refine hK.out _ _ (by (try dsimp only); (exact ⟨u0, u1, u2, u3, u4, u5, u6⟩)) (fun hHeld => ?_)
          clear hK K
          try simp only [Act.put, List.getElem_toArray, List.getElem_cons_succ, List.getElem_cons_zero, List.setIfInBounds_toArray, List.set_cons_zero, List.set_cons_succ]
          refine Held.take (k := 36) (i := 36) (v := ?vkd236) noskd2 okkkd2_36 sizkd2 (by kernel_rfl) rfl (fun _ _ _ h => h) (Or.inl ⟨by kernel_rfl, ?hykd236⟩) (by assumption) ?restkd236
          case hykd236 => (intro w hSw; (try dsimp only at hSw); go_simp; (try (first | with_reducible rfl | rw [if_neg (by omega)])))
          try simp only [Act.put, List.getElem_toArray, List.getElem_cons_succ, List.getElem_cons_zero, List.setIfInBounds_toArray, List.set_cons_zero, List.set_cons_succ]
          refine Held.take (k := 37) (i := 37) (v := ?vkd237) noskd2 okkkd2_37 sizkd2 (by kernel_rfl) rfl (fun _ _ _ h => h) (Or.inl ⟨by kernel_rfl, ?hykd237⟩) (by assumption) ?restkd237
          case hykd237 => (intro w hSw; (try dsimp only at hSw); go_simp; (try (first | with_reducible rfl | rw [if_neg (by omega)])))
          try simp only [Act.put, List.getElem_toArray, List.getElem_cons_succ, List.getElem_cons_zero, List.setIfInBounds_toArray, List.set_cons_zero, List.set_cons_succ]
          refine Held.take (k := 38) (i := 38) (v := ?vkd238) noskd2 okkkd2_38 sizkd2 (by kernel_rfl) rfl (fun _ _ _ h => h) (Or.inl ⟨by kernel_rfl, ?hykd238⟩) (by assumption) ?restkd238
          case hykd238 => (intro w hSw; (try dsimp only at hSw); go_simp; (try (first | with_reducible rfl | rw [if_neg (by omega)])))
          try simp only [Act.put, List.getElem_toArray, List.getElem_cons_succ, List.getElem_cons_zero, List.setIfInBounds_toArray, List.set_cons_zero, List.set_cons_succ]
          refine wpAnyH_done (by kernel_rfl) ?_ _
          clear u0 u1 u2 u3 u4 u5 u6
          go_wp2
          go_ret
          rw [HF.out]
          exact ⟨rfl, D⟩
      have g1 : decide ((0 : Int) < (i : Int)) = true := decide_eq_true (by omega)
      have g1n : decide (0 < i) = true := decide_eq_true (by omega)
      obtain ⟨q, hq⟩ : ∃ q, q = i - 1 := ⟨_, rfl⟩
      have hqi : q + 1 = i := by omega
      have hql : q < l.length := by omega
      obtain ⟨⟨p_, q_, r_, s_, t_, v_, x_⟩, heq⟩ : ∃ e, l[q] = e := ⟨_, rfl⟩
      have hw : IntKind.i64.wrap ((i : Int) - 1) = ((q : Nat) : Int) := by
        have : (i : Int) - 1 = (q : Int) := by omega
        rw [this, IntKind.wrap_i64]; omega
      have x1 : (0 : Int) ≤ (q : Int) := by omega
      have x2 : (q : Int) < (n : Int) := by have := EA.out; omega
      obtain ⟨bl, hbl⟩ : ∃ b, ltRo (p_, q_) (a_, b_) = b := ⟨_, rfl⟩
      have HADJ : Hid (∃ h : q + 1 < l.length, ltRo (keyRo l[q]) (keyRo l[q + 1]) = bl) := by
        subst hqi
        exact ⟨hil, by rw [heq, HE.out, ← hbl]; rfl⟩
      have HBL := Lib.hid hbl
      have HEQ := Lib.hid heq
      have HQI := Lib.hid hqi
      obtain ⟨p0, p1, p2, p3, p4, p5, p6⟩ := rowsEn (hl.below D) q hql p_ q_ r_ s_ t_ v_ x_ heq
      clear hbl heq hqi hq hi0
      cases bl with
      | false =>
        have HF : Hid (r = false) := by
          show _ = _
          rw [← HR.out]
          exact mayRo_no_adj q HADJ.out.1 HADJ.out.2
        clear uz
        replace hbX : (wr.alloc (bxEn a_ b_ c_ d_ e_ f_ g_)).drew.heap[_]? = _ := hbX
        replace D : Below _ _ (wr.alloc (bxEn a_ b_ c_ d_ e_ f_ g_)).drew := D.drew
        go_wp2_with fail
        refine Held.start (ops := opske) (S := fun w' => w'.cell? ⟨wr.heap.size, 0, none⟩ = some (.string a_) ∧ w'.cell? ⟨wr.heap.size, 1, none⟩ = some (.string b_) ∧ w'.cell? ⟨wr.heap.size, 2, none⟩ = some (.bool c_) ∧ w'.cell? ⟨wr.heap.size, 3, none⟩ = some (.bool d_) ∧ w'.cell? ⟨wr.heap.size, 4, none⟩ = some (.bool e_) ∧ w'.cell? ⟨wr.heap.size, 5, none⟩ = some (.bool f_) ∧ w'.cell? ⟨wr.heap.size, 6, none⟩ = some (.bool g_) ∧ w'.cell? (ad.add (q * 7)) = some (.string p_) ∧ w'.cell? ⟨(ad.add (q * 7)).block, (ad.add (q * 7)).off + 1, none⟩ = some (.string q_) ∧ w'.cell? ⟨(ad.add (q * 7)).block, (ad.add (q * 7)).off + 2, none⟩ = some (.bool r_) ∧ w'.cell? ⟨(ad.add (q * 7)).block, (ad.add (q * 7)).off + 3, none⟩ = some (.bool s_) ∧ w'.cell? ⟨(ad.add (q * 7)).block, (ad.add (q * 7)).off + 4, none⟩ = some (.bool t_) ∧ w'.cell? ⟨(ad.add (q * 7)).block, (ad.add (q * 7)).off + 5, none⟩ = some (.bool v_) ∧ w'.cell? ⟨(ad.add (q * 7)).block, (ad.add (q * 7)).off + 6, none⟩ = some (.bool x_)) ordke 39 (by kernel_rfl) sizke (by kernel_rfl) ⟨u0, u1, u2, u3, u4, u5, u6, p0, p1, p2, p3, p4, p5, p6⟩ (fun hHeld => ?_)
        refine Held.take (k := 0) (i := 0) (v := ?vke0) noske okkke_0 sizke (by kernel_rfl) rfl (fun _ _ _ h => h) (Or.inl ⟨by kernel_rfl, ?hyke0⟩) (by assumption) ?restke0
        case hyke0 => (intro w hSw; (try dsimp only at hSw); go_simp; (try (first | with_reducible rfl | rw [if_neg (by omega)])))
        try simp only [Act.put, List.getElem_toArray, List.getElem_cons_succ, List.getElem_cons_zero, List.setIfInBounds_toArray, List.set_cons_zero, List.set_cons_succ]
        refine Held.take (k := 1) (i := 1) (v := ?vke1) noske okkke_1 sizke (by kernel_rfl) rfl (fun _ _ _ h => h) (Or.inl ⟨by kernel_rfl, ?hyke1⟩) (by assumption) ?restke1
        case hyke1 => (intro w hSw; (try dsimp only at hSw); go_simp; (try (first | with_reducible rfl | rw [if_neg (by omega)])))
        try simp only [Act.put, List.getElem_toArray, List.getElem_cons_succ, List.getElem_cons_zero, List.setIfInBounds_toArray, List.set_cons_zero, List.set_cons_succ]
        refine Held.only (k := 2) (i := 2) rdyke_2 (by kernel_rfl) rfl (by kernel_rfl) (fun K hK => ?_)
        go_simp
        go_at_call 40
        with_reducible refine (refIs_below a_ _ HNa_ (by omega) _).mono ?_
        rintro e w3 ⟨rfl, hbx⟩
        replace u0 := cell_below hbx u0
        replace u1 := cell_below hbx u1
        replace u2 := cell_below hbx u2
        replace u3 := cell_below hbx u3
        replace u4 := cell_below hbx u4
        replace u5 := cell_below hbx u5
        replace u6 := cell_below hbx u6
        replace p0 := cell_below hbx p0
        replace p1 := cell_below hbx p1
        replace p2 := cell_below hbx p2
        replace p3 := cell_below hbx p3
        replace p4 := cell_below hbx p4
        replace p5 := cell_below hbx p5
        replace p6 := cell_below hbx p6
        replace hbX := hcall hbX hbx
        replace D := below_call D hbx
        refine hK.out _ _ (by (try dsimp only); (exact ⟨u0, u1, u2, u3, u4, u5, u6, p0, p1, p2, p3, p4, p5, p6⟩)) (fun hHeld => ?_)
        clear hK K
        try simp only [Act.put, List.getElem_toArray, List.getElem_cons_succ, List.getElem_cons_zero, List.setIfInBounds_toArray, List.set_cons_zero, List.set_cons_succ]
        refine Held.take (k := 3) (i := 3) (v := ?vke3) noske okkke_3 sizke (by kernel_rfl) rfl (fun _ _ _ h => h) (Or.inl ⟨by kernel_rfl, ?hyke3⟩) (by assumption) ?restke3
        case hyke3 => (intro w hSw; (try dsimp only at hSw); go_simp; (try (first | with_reducible rfl | rw [if_neg (by omega)])))
        try simp only [Act.put, List.getElem_toArray, List.getElem_cons_succ, List.getElem_cons_zero, List.setIfInBounds_toArray, List.set_cons_zero, List.set_cons_succ]
        refine Held.take (k := 4) (i := 4) (v := ?vke4) noske okkke_4 sizke (by kernel_rfl) rfl (fun _ _ _ h => h) (Or.inl ⟨by kernel_rfl, ?hyke4⟩) (by assumption) ?restke4
        case hyke4 => (intro w hSw; (try dsimp only at hSw); go_simp; (try (first | with_reducible rfl | rw [if_neg (by omega)])))
        try simp only [Act.put, List.getElem_toArray, List.getElem_cons_succ, List.getElem_cons_zero, List.setIfInBounds_toArray, List.set_cons_zero, List.set_cons_succ]
        refine Held.take (k := 5) (i := 5) (v := ?vke5) noske okkke_5 sizke (by kernel_rfl) rfl (fun _ _ _ h => h) (Or.inl ⟨by kernel_rfl, ?hyke5⟩) (by assumption) ?restke5
        case hyke5 => (intro w hSw; (try dsimp only at hSw); go_simp; (try (first | with_reducible rfl | rw [if_neg (by omega)])))
        try simp only [Act.put, List.getElem_toArray, List.getElem_cons_succ, List.getElem_cons_zero, List.setIfInBounds_toArray, List.set_cons_zero, List.set_cons_succ]
        refine Held.take (k := 6) (i := 6) (v := ?vke6) noske okkke_6 sizke (by kernel_rfl) rfl (fun _ _ _ h => h) (Or.inl ⟨by kernel_rfl, ?hyke6⟩) (by assumption) ?restke6
        case hyke6 => (intro w hSw; (try dsimp only at hSw); go_simp; (try (first | with_reducible rfl | rw [if_neg (by omega)])))
        try simp only [Act.put, List.getElem_toArray, List.getElem_cons_succ, List.getElem_cons_zero, List.setIfInBounds_toArray, List.set_cons_zero, List.set_cons_succ]
        refine Held.only (k := 7) (i := 7) rdyke_7 (by kernel_rfl) rfl (by kernel_rfl) (fun K hK => ?_)
        go_simp
        go_at_call 40
        with_reducible refine (refIs_below b_ _ HNb_ (by omega) _).mono ?_
        rintro e w4 ⟨rfl, hbx⟩
        replace u0 := cell_below hbx u0
        replace u1 := cell_below hbx u1
        replace u2 := cell_below hbx u2
        replace u3 := cell_below hbx u3
        replace u4 := cell_below hbx u4
        replace u5 := cell_below hbx u5
        replace u6 := cell_below hbx u6
        replace p0 := cell_below hbx p0
        replace p1 := cell_below hbx p1
        replace p2 := cell_below hbx p2
        replace p3 := cell_below hbx p3
        replace p4 := cell_below hbx p4
        replace p5 := cell_below hbx p5
        replace p6 := cell_below hbx p6
        replace hbX := hcall hbX hbx
        replace D := below_call D hbx
        refine hK.out _ _ (by (try dsimp only); (exact ⟨u0, u1, u2, u3, u4, u5, u6, p0, p1, p2, p3, p4, p5, p6⟩)) (fun hHeld => ?_)
        clear hK K
        try simp only [Act.put, List.getElem_toArray, List.getElem_cons_succ, List.getElem_cons_zero, List.setIfInBounds_toArray, List.set_cons_zero, List.set_cons_succ]
        refine Held.take (k := 8) (i := 8) (v := ?vke8) noske okkke_8 sizke (by kernel_rfl) rfl (fun _ _ _ h => h) (Or.inl ⟨by kernel_rfl, ?hyke8⟩) (by assumption) ?restke8
        case hyke8 => (intro w hSw; (try dsimp only at hSw); go_simp; (try (first | with_reducible rfl | rw [if_neg (by omega)])))
        try simp only [Act.put, List.getElem_toArray, List.getElem_cons_succ, List.getElem_cons_zero, List.setIfInBounds_toArray, List.set_cons_zero, List.set_cons_succ]
        refine Held.take (k := 9) (i := 9) (v := ?vke9) noske okkke_9 sizke (by kernel_rfl) rfl (fun _ _ _ h => h) (Or.inl ⟨by kernel_rfl, ?hyke9⟩) (by assumption) ?restke9
        case hyke9 => (intro w hSw; (try dsimp only at hSw); go_simp; (try (first | with_reducible rfl | rw [if_neg (by omega)])))
        try simp only [Act.put, List.getElem_toArray, List.getElem_cons_succ, List.getElem_cons_zero, List.setIfInBounds_toArray, List.set_cons_zero, List.set_cons_succ]
        refine Held.take (k := 10) (i := 10) (v := ?vke10) noske okkke_10 sizke (by kernel_rfl) rfl (fun _ _ _ h => h) (Or.inl ⟨by kernel_rfl, ?hyke10⟩) (by assumption) ?restke10
        case hyke10 => (intro w hSw; (try dsimp only at hSw); go_simp; (try (first | with_reducible rfl | rw [if_neg (by omega)])))
        try simp only [Act.put, List.getElem_toArray, List.getElem_cons_succ, List.getElem_cons_zero, List.setIfInBounds_toArray, List.set_cons_zero, List.set_cons_succ]
        refine Held.take (k := 11) (i := 11) (v := ?vke11) noske okkke_11 sizke (by kernel_rfl) rfl (fun _ _ _ h => h) (Or.inl ⟨by kernel_rfl, ?hyke11⟩) (by assumption) ?restke11
        case hyke11 => (intro w hSw; (try dsimp only at hSw); go_simp; (try (first | with_reducible rfl | rw [if_neg (by omega)])))
        try simp only [Act.put, List.getElem_toArray, List.getElem_cons_succ, List.getElem_cons_zero, List.setIfInBounds_toArray, List.set_cons_zero, List.set_cons_succ]
        refine Held.take (k := 12) (i := 12) (v := ?vke12) noske okkke_12 sizke (by kernel_rfl) rfl (fun _ _ _ h => h) (Or.inl ⟨by kernel_rfl, ?hyke12⟩) (by assumption) ?restke12
        case hyke12 => (intro w hSw; (try dsimp only at hSw); go_simp; (try (first | with_reducible rfl | rw [if_neg (by omega)])))
        try simp only [Act.put, List.getElem_toArray, List.getElem_cons_succ, List.getElem_cons_zero, List.setIfInBounds_toArray, List.set_cons_zero, List.set_cons_succ]
        refine Held.take (k := 13) (i := 13) (v := ?vke13) noske okkke_13 sizke (by kernel_rfl) rfl (fun _ _ _ h => h) (Or.inl ⟨by kernel_rfl, ?hyke13⟩) (by assumption) ?restke13
        case hyke13 => (intro w hSw; (try dsimp only at hSw); go_simp; (try (first | with_reducible rfl | rw [if_neg (by omega)])))
        try simp only [Act.put, List.getElem_toArray, List.getElem_cons_succ, List.getElem_cons_zero, List.setIfInBounds_toArray, List.set_cons_zero, List.set_cons_succ]
        refine Held.take (k := 14) (i := 14) (v := ?vke14) noske okkke_14 sizke (by kernel_rfl) rfl (fun _ _ _ h => h) (Or.inl ⟨by kernel_rfl, ?hyke14⟩) (by assumption) ?restke14
        case hyke14 => (intro w hSw; (try dsimp only at hSw); go_simp; (try (first | with_reducible rfl | rw [if_neg (by omega)])))
        try simp only [Act.put, List.getElem_toArray, List.getElem_cons_succ, List.getElem_cons_zero, List.setIfInBounds_toArray, List.set_cons_zero, List.set_cons_succ]
        refine Held.take (k := 15) (i := 15) (v := ?vke15) noske okkke_15 sizke (by kernel_rfl) rfl (fun _ _ _ h => h) (Or.inl ⟨by kernel_rfl, ?hyke15⟩) (by assumption) ?restke15
        case hyke15 => (intro w hSw; (try dsimp only at hSw); go_simp; (try (first | with_reducible rfl | rw [if_neg (by omega)])))
        try simp only [Act.put, List.getElem_toArray, List.getElem_cons_succ, List.getElem_cons_zero, List.setIfInBounds_toArray, List.set_cons_zero, List.set_cons_succ]
        refine Held.take (k := 16) (i := 16) (v := ?vke16) noske okkke_16 sizke (by kernel_rfl) rfl (fun _ _ _ h => h) (Or.inl ⟨by kernel_rfl, ?hyke16⟩) (by assumption) ?restke16
        case hyke16 => (intro w hSw; (try dsimp only at hSw); go_simp; (try (first | with_reducible rfl | rw [if_neg (by omega)])))
        try simp only [Act.put, List.getElem_toArray, List.getElem_cons_succ, List.getElem_cons_zero, List.setIfInBounds_toArray, List.set_cons_zero, List.set_cons_succ]
        refine Held.take (k := 17) (i := 17) (v := ?vke17) noske okkke_17 sizke (by kernel_rfl) rfl (fun _ _ _ h => h) (Or.inl ⟨by kernel_rfl, ?hyke17⟩) (by assumption) ?restke17
        case hyke17 => (intro w hSw; (try dsimp only at hSw); go_simp; (try (first | with_reducible rfl | rw [if_neg (by omega)])))
        try simp only [Act.put, List.getElem_toArray, List.getElem_cons_succ, List.getElem_cons_zero, List.setIfInBounds_toArray, List.set_cons_zero, List.set_cons_succ]
        refine Held.take (k := 18) (i := 18) (v := ?vke18) noske okkke_18 sizke (by kernel_rfl) rfl (fun _ _ _ h => h) (Or.inl ⟨by kernel_rfl, ?hyke18⟩) (by assumption) ?restke18
        case hyke18 => (intro w hSw; (try dsimp only at hSw); go_simp; (try (first | with_reducible rfl | rw [if_neg (by omega)])))
        try simp only [Act.put, List.getElem_toArray, List.getElem_cons_succ, List.getElem_cons_zero, List.setIfInBounds_toArray, List.set_cons_zero, List.set_cons_succ]
        refine Held.take (k := 19) (i := 19) (v := ?vke19) noske okkke_19 sizke (by kernel_rfl) rfl (fun _ _ _ h => h) (Or.inl ⟨by kernel_rfl, ?hyke19⟩) (by assumption) ?restke19
        case hyke19 => (intro w hSw; (try dsimp only at hSw); go_simp; (try (first | with_reducible rfl | rw [if_neg (by omega)])))
        try simp only [Act.put, List.getElem_toArray, List.getElem_cons_succ, List.getElem_cons_zero, List.setIfInBounds_toArray, List.set_cons_zero, List.set_cons_succ]
        refine Held.take (k := 20) (i := 20) (v := ?vke20) noske okkke_20 sizke (by kernel_rfl) rfl (fun _ _ _ h => h) (Or.inl ⟨by kernel_rfl, ?hyke20⟩) (by assumption) ?restke20
        case hyke20 => (intro w hSw; (try dsimp only at hSw); go_simp; (try (first | with_reducible rfl | rw [if_neg (by omega)])))
        try simp only [Act.put, List.getElem_toArray, List.getElem_cons_succ, List.getElem_cons_zero, List.setIfInBounds_toArray, List.set_cons_zero, List.set_cons_succ]
        refine Held.take (k := 21) (i := 21) (v := ?vke21) noske okkke_21 sizke (by kernel_rfl) rfl (fun _ _ _ h => h) (Or.inl ⟨by kernel_rfl, ?hyke21⟩) (by assumption) ?restke21
        case hyke21 => (intro w hSw; (try dsimp only at hSw); go_simp; (try (first | with_reducible rfl | rw [if_neg (by omega)])))
        try simp only [Act.put, List.getElem_toArray, List.getElem_cons_succ, List.getElem_cons_zero, List.setIfInBounds_toArray, List.set_cons_zero, List.set_cons_succ]
        refine Held.take (k := 22) (i := 22) (v := ?vke22) noske okkke_22 sizke (by kernel_rfl) rfl (fun _ _ _ h => h) (Or.inl ⟨by kernel_rfl, ?hyke22⟩) (by assumption) ?restke22
        case hyke22 => (intro w hSw; (try dsimp only at hSw); go_simp; (try (first | with_reducible rfl | rw [if_neg (by omega)])))
        try simp only [Act.put, List.getElem_toArray, List.getElem_cons_succ, List.getElem_cons_zero, List.setIfInBounds_toArray, List.set_cons_zero, List.set_cons_succ]
        refine Held.take (k := 23) (i := 23) (v := ?vke23) noske okkke_23 sizke (by kernel_rfl) rfl (fun _ _ _ h => h) (Or.inl ⟨by kernel_rfl, ?hyke23⟩) (by assumption) ?restke23
        case hyke23 => (intro w hSw; (try dsimp only at hSw); go_simp; (try (first | with_reducible rfl | rw [if_neg (by omega)])))
        try simp only [Act.put, List.getElem_toArray, List.getElem_cons_succ, List.getElem_cons_zero, List.setIfInBounds_toArray, List.set_cons_zero, List.set_cons_succ]
        refine Held.take (k := 24) (i := 24) (v := ?vke24) noske okkke_24 sizke (by kernel_rfl) rfl (fun _ _ _ h => h) (Or.inl ⟨by kernel_rfl, ?hyke24⟩) (by assumption) ?restke24
        case hyke24 => (intro w hSw; (try dsimp only at hSw); go_simp; (try (first | with_reducible rfl | rw [if_neg (by omega)])))
        try simp only [Act.put, List.getElem_toArray, List.getElem_cons_succ, List.getElem_cons_zero, List.setIfInBounds_toArray, List.set_cons_zero, List.set_cons_succ]
        refine Held.take (k := 25) (i := 25) (v := ?vke25) noske okkke_25 sizke (by kernel_rfl) rfl (fun _ _ _ h => h) (Or.inl ⟨by kernel_rfl, ?hyke25⟩) (by assumption) ?restke25
        case hyke25 => (intro w hSw; (try dsimp only at hSw); go_simp; (try (first | with_reducible rfl | rw [if_neg (by omega)])))
        try simp only [Act.put, List.getElem_toArray, List.getElem_cons_succ, List.getElem_cons_zero, List.setIfInBounds_toArray, List.set_cons_zero, List.set_cons_succ]
        refine Held.take (k := 26) (i := 26) (v := ?vke26) noske okkke_26 sizke (by kernel_rfl) rfl (fun _ _ _ h => h) (Or.inl ⟨by kernel_rfl, ?hyke26⟩) (by assumption) ?restke26
        case hyke26 => (intro w hSw; (try dsimp only at hSw); go_simp; (try (first | with_reducible rfl | rw [if_neg (by omega)])))
        try simp only [Act.put, List.getElem_toArray, List.getElem_cons_succ, List.getElem_cons_zero, List.setIfInBounds_toArray, List.set_cons_zero, List.set_cons_succ]
        refine Held.only (k := 27) (i := 27) rdyke_27 (by kernel_rfl) rfl (by kernel_rfl) (fun K hK => ?_)
        go_simp
        go_at_call 41
        with_reducible refine (re_ (refAheadR_calls p_ q_ r_ s_ t_ v_ x_ a_ b_ c_ d_ e_ f_ g_ _) (ret_bool HBL.out)).mono ?_
        rintro e w5 ⟨rfl, hbx⟩
        replace u0 := cell_below hbx u0
        replace u1 := cell_below hbx u1
        replace u2 := cell_below hbx u2
        replace u3 := cell_below hbx u3
        replace u4 := cell_below hbx u4
        replace u5 := cell_below hbx u5
        replace u6 := cell_below hbx u6
        replace p0 := cell_below hbx p0
        replace p1 := cell_below hbx p1
        replace p2 := cell_below hbx p2
        replace p3 := cell_below hbx p3
        replace p4 := cell_below hbx p4
        replace p5 := cell_below hbx p5
        replace p6 := cell_below hbx p6
        replace hbX := hcall hbX hbx
        replace D := below_call D hbx
        refine hK.out _ _ (by (try dsimp only); (exact ⟨u0, u1, u2, u3, u4, u5, u6, p0, p1, p2, p3, p4, p5, p6⟩)) (fun hHeld => ?_)
        clear hK K
        try simp only [Act.put, List.getElem_toArray, List.getElem_cons_succ, List.getElem_cons_zero, List.setIfInBounds_toArray, List.set_cons_zero, List.set_cons_succ]
        refine Held.take (k := 28) (i := 28) (v := ?vke28) noske okkke_28 sizke (by kernel_rfl) rfl (fun _ _ _ h => h) (Or.inl ⟨by kernel_rfl, ?hyke28⟩) (by assumption) ?restke28
        case hyke28 => (intro w hSw; (try dsimp only at hSw); go_simp; (try (first | with_reducible rfl | rw [if_neg (by omega)])))
        try simp only [Act.put, List.getElem_toArray, List.getElem_cons_succ, List.getElem_cons_zero, List.setIfInBounds_toArray, List.set_cons_zero, List.set_cons_succ]
        refine Held.take (k := 29) (i := 29) (v := ?vke29) noske okkke_29 sizke (by kernel_rfl) rfl (fun _ _ _ h => h) (Or.inl ⟨by kernel_rfl, ?hyke29⟩) (by assumption) ?restke29
        case hyke29 => (intro w hSw; (try dsimp only at hSw); go_simp; (try (first | with_reducible rfl | rw [if_neg (by omega)])))
        try simp only [Act.put, List.getElem_toArray, List.getElem_cons_succ, List.getElem_cons_zero, List.setIfInBounds_toArray, List.set_cons_zero, List.set_cons_succ]
        refine Held.take (k := 30) (i := 30) (v := ?vke30) noske okkke_30 sizke (by kernel_rfl) rfl (fun _ _ _ h => h) (Or.inl ⟨by kernel_rfl, ?hyke30⟩) (by assumption) ?restke30
        case hyke30 => (intro w hSw; (try dsimp only at hSw); go_simp; (try (first | with_reducible rfl | rw [if_neg (by omega)])))
        try simp only [Act.put, List.getElem_toArray, List.getElem_cons_succ, List.getElem_cons_zero, List.setIfInBounds_toArray, List.set_cons_zero, List.set_cons_succ]
        refine Held.take (k := 31) (i := 31) (v := ?vke31) noske okkke_31 sizke (by kernel_rfl) rfl (fun _ _ _ h => h) (Or.inl ⟨by kernel_rfl, ?hyke31⟩) (by assumption) ?restke31
        case hyke31 => (intro w hSw; (try dsimp only at hSw); go_simp; (try (first | with_reducible rfl | rw [if_neg (by omega)])))
        try simp only [Act.put, List.getElem_toArray, List.getElem_cons_succ, List.getElem_cons_zero, List.setIfInBounds_toArray, List.set_cons_zero, List.set_cons_succ]
        refine Held.take (k := 32) (i := 32) (v := undef) noske okkke_32 sizke (by kernel_rfl) rfl (fun _ _ _ h => h) (Or.inr ⟨by kernel_rfl, rfl⟩) (by assumption) ?_
        try simp only [Act.put, List.getElem_toArray, List.getElem_cons_succ, List.getElem_cons_zero, List.setIfInBounds_toArray, List.set_cons_zero, List.set_cons_succ]
        refine Held.take (k := 33) (i := 33) (v := undef) noske okkke_33 sizke (by kernel_rfl) rfl (fun _ _ _ h => h) (Or.inr ⟨by kernel_rfl, rfl⟩) (by assumption) ?_
        try simp only [Act.put, List.getElem_toArray, List.getElem_cons_succ, List.getElem_cons_zero, List.setIfInBounds_toArray, List.set_cons_zero, List.set_cons_succ]
        refine Held.take (k := 34) (i := 34) (v := undef) noske okkke_34 sizke (by kernel_rfl) rfl (fun _ _ _ h => h) (Or.inr ⟨by kernel_rfl, rfl⟩) (by assumption) ?_
        try simp only [Act.put, List.getElem_toArray, List.getElem_cons_succ, List.getElem_cons_zero, List.setIfInBounds_toArray, List.set_cons_zero, List.set_cons_succ]
        refine Held.take (k := 35) (i := 35) (v := undef) noske okkke_35 sizke (by kernel_rfl) rfl (fun _ _ _ h => h) (Or.inr ⟨by kernel_rfl, rfl⟩) (by assumption) ?_
        try simp only [Act.put, List.getElem_toArray, List.getElem_cons_succ, List.getElem_cons_zero, List.setIfInBounds_toArray, List.set_cons_zero, List.set_cons_succ]
        refine Held.take (k := 36) (i := 36) (v := undef) noske okkke_36 sizke (by kernel_rfl) rfl (fun _ _ _ h => h) (Or.inr ⟨by kernel_rfl, rfl⟩) (by assumption) ?_
        try simp only [Act.put, List.getElem_toArray, List.getElem_cons_succ, List.getElem_cons_zero, List.setIfInBounds_toArray, List.set_cons_zero, List.set_cons_succ]
        refine Held.take (k := 37) (i := 37) (v := undef) noske okkke_37 sizke (by kernel_rfl) rfl (fun _ _ _ h => h) (Or.inr ⟨by kernel_rfl, rfl⟩) (by assumption) ?_
        try simp only [Act.put, List.getElem_toArray, List.getElem_cons_succ, List.getElem_cons_zero, List.setIfInBounds_toArray, List.set_cons_zero, List.set_cons_succ]
        refine Held.take (k := 38) (i := 38) (v := ?vke38) noske okkke_38 sizke (by kernel_rfl) rfl (fun _ _ _ h => h) (Or.inl ⟨by kernel_rfl, ?hyke38⟩) (by assumption) ?restke38
        case hyke38 => (intro w hSw; (try dsimp only at hSw); go_simp; (try (first | with_reducible rfl | rw [if_neg (by omega)])))
        try simp only [Act.put, List.getElem_toArray, List.getElem_cons_succ, List.getElem_cons_zero, List.setIfInBounds_toArray, List.set_cons_zero, List.set_cons_succ]
        refine wpAnyH_done (by kernel_rfl) ?_ _
        clear u0 u1 u2 u3 u4 u5 u6 p0 p1 p2 p3 p4 p5 p6
        go_wp2
        go_ret
        rw [HF.out]
        exact ⟨rfl, D⟩
      | true =>
        have HJ2 : Hid (∀ j (h : j + 1 < l.length), j + 1 < i + 1 → ltRo (keyRo l[j]) (keyRo l[j + 1]) = true) := fun j h hj => by
          rcases Nat.lt_or_ge (j + 1) i with h' | h'
          · exact HJ.out j h h'
          · obtain rfl : j = q := by have := HQI.out; omega
            exact HADJ.out.2
        by_cases hm16 : m ≤ 16
        · have d1 : decide ((16 : Int) < (m : Int)) = false := decide_eq_false (by omega)
          have d2 : decide (16 < m) = false := decide_eq_false (by omega)
          clear uz
          replace hbX : (wr.alloc (bxEn a_ b_ c_ d_ e_ f_ g_)).drew.heap[_]? = _ := hbX
          replace D : Below _ _ (wr.alloc (bxEn a_ b_ c_ d_ e_ f_ g_)).drew := D.drew
          go_wp2_with fail
          refine Held.start (ops := opskf1) (S := fun w' => w'.cell? ⟨wr.heap.size, 0, none⟩ = some (.string a_) ∧ w'.cell? ⟨wr.heap.size, 1, none⟩ = some (.string b_) ∧ w'.cell? ⟨wr.heap.size, 2, none⟩ = some (.bool c_) ∧ w'.cell? ⟨wr.heap.size, 3, none⟩ = some (.bool d_) ∧ w'.cell? ⟨wr.heap.size, 4, none⟩ = some (.bool e_) ∧ w'.cell? ⟨wr.heap.size, 5, none⟩ = some (.bool f_) ∧ w'.cell? ⟨wr.heap.size, 6, none⟩ = some (.bool g_) ∧ w'.cell? (ad.add (q * 7)) = some (.string p_) ∧ w'.cell? ⟨(ad.add (q * 7)).block, (ad.add (q * 7)).off + 1, none⟩ = some (.string q_) ∧ w'.cell? ⟨(ad.add (q * 7)).block, (ad.add (q * 7)).off + 2, none⟩ = some (.bool r_) ∧ w'.cell? ⟨(ad.add (q * 7)).block, (ad.add (q * 7)).off + 3, none⟩ = some (.bool s_) ∧ w'.cell? ⟨(ad.add (q * 7)).block, (ad.add (q * 7)).off + 4, none⟩ = some (.bool t_) ∧ w'.cell? ⟨(ad.add (q * 7)).block, (ad.add (q * 7)).off + 5, none⟩ = some (.bool v_) ∧ w'.cell? ⟨(ad.add (q * 7)).block, (ad.add (q * 7)).off + 6, none⟩ = some (.bool x_)) ordkf1 39 (by kernel_rfl) sizkf1 (by kernel_rfl) ⟨u0, u1, u2, u3, u4, u5, u6, p0, p1, p2, p3, p4, p5, p6⟩ (fun hHeld => ?_)
          refine Held.take (k := 0) (i := 0) (v := ?vkf10) noskf1 okkkf1_0 sizkf1 (by kernel_rfl) rfl (fun _ _ _ h => h) (Or.inl ⟨by kernel_rfl, ?hykf10⟩) (by assumption) ?restkf10
          case hykf10 => (intro w hSw; (try dsimp only at hSw); go_simp; (try (first | with_reducible rfl | rw [if_neg (by omega)])))
          try simp only [Act.put, List.getElem_toArray, List.getElem_cons_succ, List.getElem_cons_zero, List.setIfInBounds_toArray, List.set_cons_zero, List.set_cons_succ]
          refine Held.take (k := 1) (i := 1) (v := ?vkf11) noskf1 okkkf1_1 sizkf1 (by kernel_rfl) rfl (fun _ _ _ h => h) (Or.inl ⟨by kernel_rfl, ?hykf11⟩) (by assumption) ?restkf11
          case hykf11 => (intro w hSw; (try dsimp only at hSw); go_simp; (try (first | with_reducible rfl | rw [if_neg (by omega)])))
          try simp only [Act.put, List.getElem_toArray, List.getElem_cons_succ, List.getElem_cons_zero, List.setIfInBounds_toArray, List.set_cons_zero, List.set_cons_succ]
          refine Held.only (k := 2) (i := 2) rdykf1_2 (by kernel_rfl) rfl (by kernel_rfl) (fun K hK => ?_)
          go_simp
          go_at_call 40
          with_reducible refine (refIs_below a_ _ HNa_ (by omega) _).mono ?_
          rintro e w3 ⟨rfl, hbx⟩
          replace u0 := cell_below hbx u0
          replace u1 := cell_below hbx u1
          replace u2 := cell_below hbx u2
          replace u3 := cell_below hbx u3
          replace u4 := cell_below hbx u4
          replace u5 := cell_below hbx u5
          replace u6 := cell_below hbx u6
          replace p0 := cell_below hbx p0
          replace p1 := cell_below hbx p1
          replace p2 := cell_below hbx p2
          replace p3 := cell_below hbx p3
          replace p4 := cell_below hbx p4
          replace p5 := cell_below hbx p5
          replace p6 := cell_below hbx p6
          replace hbX := hcall hbX hbx
          replace D := below_call D hbx
          refine hK.out _ _ (by (try dsimp only); (exact ⟨u0, u1, u2, u3, u4, u5, u6, p0, p1, p2, p3, p4, p5, p6⟩)) (fun hHeld => ?_)
          clear hK K
          try simp only [Act.put, List.getElem_toArray, List.getElem_cons_succ, List.getElem_cons_zero, List.setIfInBounds_toArray, List.set_cons_zero, List.set_cons_succ]
          refine Held.take (k := 3) (i := 3) (v := ?vkf13) noskf1 okkkf1_3 sizkf1 (by kernel_rfl) rfl (fun _ _ _ h => h) (Or.inl ⟨by kernel_rfl, ?hykf13⟩) (by assumption) ?restkf13
          case hykf13 => (intro w hSw; (try dsimp only at hSw); go_simp; (try (first | with_reducible rfl | rw [if_neg (by omega)])))
          try simp only [Act.put, List.getElem_toArray, List.getElem_cons_succ, List.getElem_cons_zero, List.setIfInBounds_toArray, List.set_cons_zero, List.set_cons_succ]
          refine Held.take (k := 4) (i := 4) (v := ?vkf14) noskf1 okkkf1_4 sizkf1 (by kernel_rfl) rfl (fun _ _ _ h => h) (Or.inl ⟨by kernel_rfl, ?hykf14⟩) (by assumption) ?restkf14
          case hykf14 => (intro w hSw; (try dsimp only at hSw); go_simp; (try (first | with_reducible rfl | rw [if_neg (by omega)])))
          try simp only [Act.put, List.getElem_toArray, List.getElem_cons_succ, List.getElem_cons_zero, List.setIfInBounds_toArray, List.set_cons_zero, List.set_cons_succ]
          refine Held.take (k := 5) (i := 5) (v := ?vkf15) noskf1 okkkf1_5 sizkf1 (by kernel_rfl) rfl (fun _ _ _ h => h) (Or.inl ⟨by kernel_rfl, ?hykf15⟩) (by assumption) ?restkf15
          case hykf15 => (intro w hSw; (try dsimp only at hSw); go_simp; (try (first | with_reducible rfl | rw [if_neg (by omega)])))
          try simp only [Act.put, List.getElem_toArray, List.getElem_cons_succ, List.getElem_cons_zero, List.setIfInBounds_toArray, List.set_cons_zero, List.set_cons_succ]
          refine Held.take (k := 6) (i := 6) (v := ?vkf16) noskf1 okkkf1_6 sizkf1 (by kernel_rfl) rfl (fun _ _ _ h => h) (Or.inl ⟨by kernel_rfl, ?hykf16⟩) (by assumption) ?restkf16
          case hykf16 => (intro w hSw; (try dsimp only at hSw); go_simp; (try (first | with_reducible rfl | rw [if_neg (by omega)])))
          try simp only [Act.put, List.getElem_toArray, List.getElem_cons_succ, List.getElem_cons_zero, List.setIfInBounds_toArray, List.set_cons_zero, List.set_cons_succ]
          refine Held.only (k := 7) (i := 7) rdykf1_7 (by kernel_rfl) rfl (by kernel_rfl) (fun K hK => ?_)
          go_simp
          go_at_call 40
          with_reducible refine (refIs_below b_ _ HNb_ (by omega) _).mono ?_
          rintro e w4 ⟨rfl, hbx⟩
          replace u0 := cell_below hbx u0
          replace u1 := cell_below hbx u1
          replace u2 := cell_below hbx u2
          replace u3 := cell_below hbx u3
          replace u4 := cell_below hbx u4
          replace u5 := cell_below hbx u5
          replace u6 := cell_below hbx u6
          replace p0 := cell_below hbx p0
          replace p1 := cell_below hbx p1
          replace p2 := cell_below hbx p2
          replace p3 := cell_below hbx p3
          replace p4 := cell_below hbx p4
          replace p5 := cell_below hbx p5
          replace p6 := cell_below hbx p6
          replace hbX := hcall hbX hbx
          replace D := below_call D hbx
          refine hK.out _ _ (by (try dsimp only); (exact ⟨u0, u1, u2, u3, u4, u5, u6, p0, p1, p2, p3, p4, p5, p6⟩)) (fun hHeld => ?_)
          clear hK K
          try simp only [Act.put, List.getElem_toArray, List.getElem_cons_succ, List.getElem_cons_zero, List.setIfInBounds_toArray, List.set_cons_zero, List.set_cons_succ]
          refine Held.take (k := 8) (i := 8) (v := ?vkf18) noskf1 okkkf1_8 sizkf1 (by kernel_rfl) rfl (fun _ _ _ h => h) (Or.inl ⟨by kernel_rfl, ?hykf18⟩) (by assumption) ?restkf18
          case hykf18 => (intro w hSw; (try dsimp only at hSw); go_simp; (try (first | with_reducible rfl | rw [if_neg (by omega)])))
          try simp only [Act.put, List.getElem_toArray, List.getElem_cons_succ, List.getElem_cons_zero, List.setIfInBounds_toArray, List.set_cons_zero, List.set_cons_succ]
          refine Held.take (k := 9) (i := 9) (v := ?vkf19) noskf1 okkkf1_9 sizkf1 (by kernel_rfl) rfl (fun _ _ _ h => h) (Or.inl ⟨by kernel_rfl, ?hykf19⟩) (by assumption) ?restkf19
          case hykf19 => (intro w hSw; (try dsimp only at hSw); go_simp; (try (first | with_reducible rfl | rw [if_neg (by omega)])))
          try simp only [Act.put, List.getElem_toArray, List.getElem_cons_succ, List.getElem_cons_zero, List.setIfInBounds_toArray, List.set_cons_zero, List.set_cons_succ]
          refine Held.take (k := 10) (i := 10) (v := ?vkf110) noskf1 okkkf1_10 sizkf1 (by kernel_rfl) rfl (fun _ _ _ h => h) (Or.inl ⟨by kernel_rfl, ?hykf110⟩) (by assumption) ?restkf110
          case hykf110 => (intro w hSw; (try dsimp only at hSw); go_simp; (try (first | with_reducible rfl | rw [if_neg (by omega)])))
          try simp only [Act.put, List.getElem_toArray, List.getElem_cons_succ, List.getElem_cons_zero, List.setIfInBounds_toArray, List.set_cons_zero, List.set_cons_succ]
          refine Held.take (k := 11) (i := 11) (v := ?vkf111) noskf1 okkkf1_11 sizkf1 (by kernel_rfl) rfl (fun _ _ _ h => h) (Or.inl ⟨by kernel_rfl, ?hykf111⟩) (by assumption) ?restkf111
          case hykf111 => (intro w hSw; (try dsimp only at hSw); go_simp; (try (first | with_reducible rfl | rw [if_neg (by omega)])))
          try simp only [Act.put, List.getElem_toArray, List.getElem_cons_succ, List.getElem_cons_zero, List.setIfInBounds_toArray, List.set_cons_zero, List.set_cons_succ]
          refine Held.take (k := 12) (i := 12) (v := ?vkf112) noskf1 okkkf1_12 sizkf1 (by kernel_rfl) rfl (fun _ _ _ h => h) (Or.inl ⟨by kernel_rfl, ?hykf112⟩) (by assumption) ?restkf112
          case hykf112 => (intro w hSw; (try dsimp only at hSw); go_simp; (try (first | with_reducible rfl | rw [if_neg (by omega)])))
          try simp only [Act.put, List.getElem_toArray, List.getElem_cons_succ, List.getElem_cons_zero, List.setIfInBounds_toArray, List.set_cons_zero, List.set_cons_succ]
          refine Held.take (k := 13) (i := 13) (v := ?vkf113) noskf1 okkkf1_13 sizkf1 (by kernel_rfl) rfl (fun _ _ _ h => h) (Or.inl ⟨by kernel_rfl, ?hykf113⟩) (by assumption) ?restkf113
          case hykf113 => (intro w hSw; (try dsimp only at hSw); go_simp; (try (first | with_reducible rfl | rw [if_neg (by omega)])))
          try simp only [Act.put, List.getElem_toArray, List.getElem_cons_succ, List.getElem_cons_zero, List.setIfInBounds_toArray, List.set_cons_zero, List.set_cons_succ]
          refine Held.take (k := 14) (i := 14) (v := ?vkf114) noskf1 okkkf1_14 sizkf1 (by kernel_rfl) rfl (fun _ _ _ h => h) (Or.inl ⟨by kernel_rfl, ?hykf114⟩) (by assumption) ?restkf114
          case hykf114 => (intro w hSw; (try dsimp only at hSw); go_simp; (try (first | with_reducible rfl | rw [if_neg (by omega)])))
          try simp only [Act.put, List.getElem_toArray, List.getElem_cons_succ, List.getElem_cons_zero, List.setIfInBounds_toArray, List.set_cons_zero, List.set_cons_succ]
          refine Held.take (k := 15) (i := 15) (v := ?vkf115) noskf1 okkkf1_15 sizkf1 (by kernel_rfl) rfl (fun _ _ _ h => h) (Or.inl ⟨by kernel_rfl, ?hykf115⟩) (by assumption) ?restkf115
          case hykf115 => (intro w hSw; (try dsimp only at hSw); go_simp; (try (first | with_reducible rfl | rw [if_neg (by omega)])))
          try simp only [Act.put, List.getElem_toArray, List.getElem_cons_succ, List.getElem_cons_zero, List.setIfInBounds_toArray, List.set_cons_zero, List.set_cons_succ]
          refine Held.take (k := 16) (i := 16) (v := ?vkf116) noskf1 okkkf1_16 sizkf1 (by kernel_rfl) rfl (fun _ _ _ h => h) (Or.inl ⟨by kernel_rfl, ?hykf116⟩) (by assumption) ?restkf116
          case hykf116 => (intro w hSw; (try dsimp only at hSw); go_simp; (try (first | with_reducible rfl | rw [if_neg (by omega)])))
          try simp only [Act.put, List.getElem_toArray, List.getElem_cons_succ, List.getElem_cons_zero, List.setIfInBounds_toArray, List.set_cons_zero, List.set_cons_succ]
          refine Held.take (k := 17) (i := 17) (v := ?vkf117) noskf1 okkkf1_17 sizkf1 (by kernel_rfl) rfl (fun _ _ _ h => h) (Or.inl ⟨by kernel_rfl, ?hykf117⟩) (by assumption) ?restkf117
          case hykf117 => (intro w hSw; (try dsimp only at hSw); go_simp; (try (first | with_reducible rfl | rw [if_neg (by omega)])))
          try simp only [Act.put, List.getElem_toArray, List.getElem_cons_succ, List.getElem_cons_zero, List.setIfInBounds_toArray, List.set_cons_zero, List.set_cons_succ]
          refine Held.take (k := 18) (i := 18) (v := ?vkf118) noskf1 okkkf1_18 sizkf1 (by kernel_rfl) rfl (fun _ _ _ h => h) (Or.inl ⟨by kernel_rfl, ?hykf118⟩) (by assumption) ?restkf118
          case hykf118 => (intro w hSw; (try dsimp only at hSw); go_simp; (try (first | with_reducible rfl | rw [if_neg (by omega)])))
          try simp only [Act.put, List.getElem_toArray, List.getElem_cons_succ, List.getElem_cons_zero, List.setIfInBounds_toArray, List.set_cons_zero, List.set_cons_succ]
          refine Held.take (k := 19) (i := 19) (v := ?vkf119) noskf1 okkkf1_19 sizkf1 (by kernel_rfl) rfl (fun _ _ _ h => h) (Or.inl ⟨by kernel_rfl, ?hykf119⟩) (by assumption) ?restkf119
          case hykf119 => (intro w hSw; (try dsimp only at hSw); go_simp; (try (first | with_reducible rfl | rw [if_neg (by omega)])))
          try simp only [Act.put, List.getElem_toArray, List.getElem_cons_succ, List.getElem_cons_zero, List.setIfInBounds_toArray, List.set_cons_zero, List.set_cons_succ]
          refine Held.take (k := 20) (i := 20) (v := ?vkf120) noskf1 okkkf1_20 sizkf1 (by kernel_rfl) rfl (fun _ _ _ h => h) (Or.inl ⟨by kernel_rfl, ?hykf120⟩) (by assumption) ?restkf120
          case hykf120 => (intro w hSw; (try dsimp only at hSw); go_simp; (try (first | with_reducible rfl | rw [if_neg (by omega)])))
          try simp only [Act.put, List.getElem_toArray, List.getElem_cons_succ, List.getElem_cons_zero, List.setIfInBounds_toArray, List.set_cons_zero, List.set_cons_succ]
          refine Held.take (k := 21) (i := 21) (v := ?vkf121) noskf1 okkkf1_21 sizkf1 (by kernel_rfl) rfl (fun _ _ _ h => h) (Or.inl ⟨by kernel_rfl, ?hykf121⟩) (by assumption) ?restkf121
          case hykf121 => (intro w hSw; (try dsimp only at hSw); go_simp; (try (first | with_reducible rfl | rw [if_neg (by omega)])))
          try simp only [Act.put, List.getElem_toArray, List.getElem_cons_succ, List.getElem_cons_zero, List.setIfInBounds_toArray, List.set_cons_zero, List.set_cons_succ]
          refine Held.take (k := 22) (i := 22) (v := ?vkf122) noskf1 okkkf1_22 sizkf1 (by kernel_rfl) rfl (fun _ _ _ h => h) (Or.inl ⟨by kernel_rfl, ?hykf122⟩) (by assumption) ?restkf122
          case hykf122 => (intro w hSw; (try dsimp only at hSw); go_simp; (try (first | with_reducible rfl | rw [if_neg (by omega)])))
          try simp only [Act.put, List.getElem_toArray, List.getElem_cons_succ, List.getElem_cons_zero, List.setIfInBounds_toArray, List.set_cons_zero, List.set_cons_succ]
          refine Held.take (k := 23) (i := 23) (v := ?vkf123) noskf1 okkkf1_23 sizkf1 (by kernel_rfl) rfl (fun _ _ _ h => h) (Or.inl ⟨by kernel_rfl, ?hykf123⟩) (by assumption) ?restkf123
          case hykf123 => (intro w hSw; (try dsimp only at hSw); go_simp; (try (first | with_reducible rfl | rw [if_neg (by omega)])))
          try simp only [Act.put, List.getElem_toArray, List.getElem_cons_succ, List.getElem_cons_zero, List.setIfInBounds_toArray, List.set_cons_zero, List.set_cons_succ]
          refine Held.take (k := 24) (i := 24) (v := ?vkf124) noskf1 okkkf1_24 sizkf1 (by kernel_rfl) rfl (fun _ _ _ h => h) (Or.inl ⟨by kernel_rfl, ?hykf124⟩) (by assumption) ?restkf124
          case hykf124 => (intro w hSw; (try dsimp only at hSw); go_simp; (try (first | with_reducible rfl | rw [if_neg (by omega)])))
          try simp only [Act.put, List.getElem_toArray, List.getElem_cons_succ, List.getElem_cons_zero, List.setIfInBounds_toArray, List.set_cons_zero, List.set_cons_succ]
          refine Held.take (k := 25) (i := 25) (v := ?vkf125) noskf1 okkkf1_25 sizkf1 (by kernel_rfl) rfl (fun _ _ _ h => h) (Or.inl ⟨by kernel_rfl, ?hykf125⟩) (by assumption) ?restkf125
          case hykf125 => (intro w hSw; (try dsimp only at hSw); go_simp; (try (first | with_reducible rfl | rw [if_neg (by omega)])))
          try simp only [Act.put, List.getElem_toArray, List.getElem_cons_succ, List.getElem_cons_zero, List.setIfInBounds_toArray, List.set_cons_zero, List.set_cons_succ]
          refine Held.take (k := 26) (i := 26) (v := ?vkf126) noskf1 okkkf1_26 sizkf1 (by kernel_rfl) rfl (fun _ _ _ h => h) (Or.inl ⟨by kernel_rfl, ?hykf126⟩) (by assumption) ?restkf126
          case hykf126 => (intro w hSw; (try dsimp only at hSw); go_simp; (try (first | with_reducible rfl | rw [if_neg (by omega)])))
          try simp only [Act.put, List.getElem_toArray, List.getElem_cons_succ, List.getElem_cons_zero, List.setIfInBounds_toArray, List.set_cons_zero, List.set_cons_succ]
          refine Held.only (k := 27) (i := 27) rdykf1_27 (by kernel_rfl) rfl (by kernel_rfl) (fun K hK => ?_)
          go_simp
          go_at_call 41
          with_reducible refine (re_ (refAheadR_calls p_ q_ r_ s_ t_ v_ x_ a_ b_ c_ d_ e_ f_ g_ _) (ret_bool HBL.out)).mono ?_
          rintro e w5 ⟨rfl, hbx⟩
          replace u0 := cell_below hbx u0
          replace u1 := cell_below hbx u1
          replace u2 := cell_below hbx u2
          replace u3 := cell_below hbx u3
          replace u4 := cell_below hbx u4
          replace u5 := cell_below hbx u5
          replace u6 := cell_below hbx u6
          replace p0 := cell_below hbx p0
          replace p1 := cell_below hbx p1
          replace p2 := cell_below hbx p2
          replace p3 := cell_below hbx p3
          replace p4 := cell_below hbx p4
          replace p5 := cell_below hbx p5
          replace p6 := cell_below hbx p6
          replace hbX := hcall hbX hbx
          replace D := below_call D hbx
          refine hK.out _ _ (by (try dsimp only); (exact ⟨u0, u1, u2, u3, u4, u5, u6, p0, p1, p2, p3, p4, p5, p6⟩)) (fun hHeld => ?_)
          clear hK K
          try simp only [Act.put, List.getElem_toArray, List.getElem_cons_succ, List.getElem_cons_zero, List.setIfInBounds_toArray, List.set_cons_zero, List.set_cons_succ]
          refine Held.take (k := 28) (i := 28) (v := ?vkf128) noskf1 okkkf1_28 sizkf1 (by kernel_rfl) rfl (fun _ _ _ h => h) (Or.inl ⟨by kernel_rfl, ?hykf128⟩) (by assumption) ?restkf128
          case hykf128 => (intro w hSw; (try dsimp only at hSw); go_simp; (try (first | with_reducible rfl | rw [if_neg (by omega)])))
          try simp only [Act.put, List.getElem_toArray, List.getElem_cons_succ, List.getElem_cons_zero, List.setIfInBounds_toArray, List.set_cons_zero, List.set_cons_succ]
          refine Held.take (k := 29) (i := 29) (v := ?vkf129) noskf1 okkkf1_29 sizkf1 (by kernel_rfl) rfl (fun _ _ _ h => h) (Or.inl ⟨by kernel_rfl, ?hykf129⟩) (by assumption) ?restkf129
          case hykf129 => (intro w hSw; (try dsimp only at hSw); go_simp; (try (first | with_reducible rfl | rw [if_neg (by omega)])))
          try simp only [Act.put, List.getElem_toArray, List.getElem_cons_succ, List.getElem_cons_zero, List.setIfInBounds_toArray, List.set_cons_zero, List.set_cons_succ]
          refine Held.take (k := 30) (i := 30) (v := ?vkf130) noskf1 okkkf1_30 sizkf1 (by kernel_rfl) rfl (fun _ _ _ h => h) (Or.inl ⟨by kernel_rfl, ?hykf130⟩) (by assumption) ?restkf130
          case hykf130 => (intro w hSw; (try dsimp only at hSw); go_simp; (try (first | with_reducible rfl | rw [if_neg (by omega)])))
          try simp only [Act.put, List.getElem_toArray, List.getElem_cons_succ, List.getElem_cons_zero, List.setIfInBounds_toArray, List.set_cons_zero, List.set_cons_succ]
          refine Held.take (k := 31) (i := 31) (v := ?vkf131) noskf1 okkkf1_31 sizkf1 (by kernel_rfl) rfl (fun _ _ _ h => h) (Or.inl ⟨by kernel_rfl, ?hykf131⟩) (by assumption) ?restkf131
          case hykf131 => (intro w hSw; (try dsimp only at hSw); go_simp; (try (first | with_reducible rfl | rw [if_neg (by omega)])))
          try simp only [Act.put, List.getElem_toArray, List.getElem_cons_succ, List.getElem_cons_zero, List.setIfInBounds_toArray, List.set_cons_zero, List.set_cons_succ]
          refine Held.take (k := 32) (i := 32) (v := ?vkf132) noskf1 okkkf1_32 sizkf1 (by kernel_rfl) rfl (fun _ _ _ h => h) (Or.inl ⟨by kernel_rfl, ?hykf132⟩) (by assumption) ?restkf132
          case hykf132 => (intro w hSw; (try dsimp only at hSw); go_simp; (try (first | with_reducible rfl | rw [if_neg (by omega)])))
          try simp only [Act.put, List.getElem_toArray, List.getElem_cons_succ, List.getElem_cons_zero, List.setIfInBounds_toArray, List.set_cons_zero, List.set_cons_succ]
          refine Held.take (k := 33) (i := 33) (v := ?vkf133) noskf1 okkkf1_33 sizkf1 (by kernel_rfl) rfl (fun _ _ _ h => h) (Or.inl ⟨by kernel_rfl, ?hykf133⟩) (by assumption) ?restkf133
          case hykf133 => (intro w hSw; (try dsimp only at hSw); go_simp; (try (first | with_reducible rfl | rw [if_neg (by omega)])))
          try simp only [Act.put, List.getElem_toArray, List.getElem_cons_succ, List.getElem_cons_zero, List.setIfInBounds_toArray, List.set_cons_zero, List.set_cons_succ]
          refine Held.take (k := 34) (i := 34) (v := ?vkf134) noskf1 okkkf1_34 sizkf1 (by kernel_rfl) rfl (fun _ _ _ h => h) (Or.inl ⟨by kernel_rfl, ?hykf134⟩) (by assumption) ?restkf134
          case hykf134 => (intro w hSw; (try dsimp only at hSw); go_simp; (try (first | with_reducible rfl | rw [if_neg (by omega)])))
          try simp only [Act.put, List.getElem_toArray, List.getElem_cons_succ, List.getElem_cons_zero, List.setIfInBounds_toArray, List.set_cons_zero, List.set_cons_succ]
          refine Held.only (k := 35) (i := 35) rdykf1_35 (by kernel_rfl) rfl (by kernel_rfl) (fun K hK => ?_)
          go_simp
          go_at_call 18
          with_reducible refine (refOfLen n c _ l a_ _ (hl.below D) hn m HM).mono ?_
          rintro e w6 ⟨⟨Ao, co, rfl⟩, hbx⟩
          replace u0 := cell_below hbx u0
          replace u1 := cell_below hbx u1
          replace u2 := cell_below hbx u2
          replace u3 := cell_below hbx u3
          replace u4 := cell_below hbx u4
          replace u5 := cell_below hbx u5
          replace u6 := cell_below hbx u6
          replace p0 := cell_below hbx p0
          replace p1 := cell_below hbx p1
          replace p2 := cell_below hbx p2
          replace p3 := cell_below hbx p3
          replace p4 := cell_below hbx p4
          replace p5 := cell_below hbx p5
          replace p6 := cell_below hbx p6
          replace hbX := hcall hbX hbx
          replace D := below_call D hbx
          refine hK.out _ _ (by (try dsimp only); (exact ⟨u0, u1, u2, u3, u4, u5, u6, p0, p1, p2, p3, p4, p5, p6⟩)) (fun hHeld => ?_)
          clear hK K
          try simp only [Act.put, List.getElem_toArray, List.getElem_cons_succ, List.getElem_cons_zero, List.setIfInBounds_toArray, List.set_cons_zero, List.set_cons_succ]
          refine Held.take (k := 36) (i := 36) (v := ?vkf136) noskf1 okkkf1_36 sizkf1 (by kernel_rfl) rfl (fun _ _ _ h => h) (Or.inl ⟨by kernel_rfl, ?hykf136⟩) (by assumption) ?restkf136
          case hykf136 => (intro w hSw; (try dsimp only at hSw); go_simp; (try (first | with_reducible rfl | rw [if_neg (by omega)])))
          try simp only [Act.put, List.getElem_toArray, List.getElem_cons_succ, List.getElem_cons_zero, List.setIfInBounds_toArray, List.set_cons_zero, List.set_cons_succ]
          refine Held.take (k := 37) (i := 37) (v := ?vkf137) noskf1 okkkf1_37 sizkf1 (by kernel_rfl) rfl (fun _ _ _ h => h) (Or.inl ⟨by kernel_rfl, ?hykf137⟩) (by assumption) ?restkf137
          case hykf137 => (intro w hSw; (try dsimp only at hSw); go_simp; (try (first | with_reducible rfl | rw [if_neg (by omega)])))
          try simp only [Act.put, List.getElem_toArray, List.getElem_cons_succ, List.getElem_cons_zero, List.setIfInBounds_toArray, List.set_cons_zero, List.set_cons_succ]
          refine Held.take (k := 38) (i := 38) (v := ?vkf138) noskf1 okkkf1_38 sizkf1 (by kernel_rfl) rfl (fun _ _ _ h => h) (Or.inl ⟨by kernel_rfl, ?hykf138⟩) (by assumption) ?restkf138
          case hykf138 => (intro w hSw; (try dsimp only at hSw); go_simp; (try (first | with_reducible rfl | rw [if_neg (by omega)])))
          try simp only [Act.put, List.getElem_toArray, List.getElem_cons_succ, List.getElem_cons_zero, List.setIfInBounds_toArray, List.set_cons_zero, List.set_cons_succ]
          refine wpAnyH_done (by kernel_rfl) ?_ _
          clear u0 u1 u2 u3 u4 u5 u6 p0 p1 p2 p3 p4 p5 p6
          obtain ⟨u0, u1, u2, u3, u4, u5, u6, uz⟩ := cellsEn a_ b_ c_ d_ e_ f_ g_ hbX
          go_wp2_with fail
          with_reducible refine (HGET.out _ (hl.below D)).mono ?_
          rintro e w7 ⟨rfl, b7⟩
          replace hbX := hcall hbX b7
          replace D := below_call D b7
          clear b7 u0 u1 u2 u3 u4 u5 u6 uz
          have hy := heap_alloc_new w7 (bxIt c' d' e' f' g')
          replace hbX := halloc hbX (bxIt c' d' e' f' g')
          replace D := below_alloc0 D (bxIt c' d' e' f' g')
          obtain ⟨u0, u1, u2, u3, u4, u5, u6, uz⟩ := cellsEn a_ b_ c_ d_ e_ f_ g_ hbX
          obtain ⟨⟨y0, y1, y2, y3, y4⟩, -, yz⟩ := iopen hy
          go_wp2_with fail
          with_reducible refine (re_ (hasRo_calls n c _ l b_ a_ _ (hl.below D)) (ret_bool HG2.out)).mono ?_
          rintro e w8 ⟨rfl, b8⟩
          replace hbX := hcall hbX b8
          replace hy := hcall hy b8
          replace D := below_call D b8
          clear b8 u0 u1 u2 u3 u4 u5 u6 uz y0 y1 y2 y3 y4 yz
          cases hh with
          | false =>
            have HF : Hid (r = false) := by
              show _ = _
              rw [← HR.out]
              exact mayRo_no_one (List.getElem_mem hil) (by rw [HCE.out]; simp)
            go_wp2
            go_ret
            rw [HF.out]
            exact ⟨rfl, D⟩
          | true =>
          obtain ⟨ft, hft⟩ : ∃ b, fitI ⟨c_, d_, e_, f_, g_⟩ ⟨c', d', e', f', g'⟩ = b := ⟨_, rfl⟩
          have HFT := Lib.hid hft
          clear hft
          obtain ⟨u0, u1, u2, u3, u4, u5, u6, uz⟩ := cellsEn a_ b_ c_ d_ e_ f_ g_ hbX
          obtain ⟨⟨y0, y1, y2, y3, y4⟩, -, yz⟩ := iopen hy
          go_wp2_with fail
          with_reducible refine (re_ (refMayI_calls c_ d_ e_ f_ g_ c' d' e' f' g' _) (ret_bool HFT.out)).mono ?_
          rintro e w9 ⟨rfl, b9⟩
          replace hbX := hcall hbX b9
          replace hy := hcall hy b9
          replace D := below_call D b9
          clear b9 u0 u1 u2 u3 u4 u5 u6 uz y0 y1 y2 y3 y4 yz
          cases ft with
          | false =>
            have HF : Hid (r = false) := by
              show _ = _
              rw [← HR.out]
              exact mayRo_no_one (List.getElem_mem hil) (by rw [HCE.out, HFT.out]; simp)
            go_wp2
            go_ret
            rw [HF.out]
            exact ⟨rfl, D⟩
          | true =>
          obtain ⟨m1, hm1⟩ : ∃ b, emptyI ⟨c_, d_, e_, f_, g_⟩ = b := ⟨_, rfl⟩
          have HM1 := Lib.hid hm1
          clear hm1
          obtain ⟨u0, u1, u2, u3, u4, u5, u6, uz⟩ := cellsEn a_ b_ c_ d_ e_ f_ g_ hbX
          obtain ⟨⟨y0, y1, y2, y3, y4⟩, -, yz⟩ := iopen hy
          go_wp2_with fail
          with_reducible refine (re_ (refEmptyI_calls c_ d_ e_ f_ g_ _) (ret_bool HM1.out)).mono ?_
          rintro e w10 ⟨rfl, b10⟩
          replace hbX := hcall hbX b10
          replace hy := hcall hy b10
          replace D := below_call D b10
          clear b10 u0 u1 u2 u3 u4 u5 u6 uz y0 y1 y2 y3 y4 yz
          cases m1 with
          | false =>
            have HK2 : Hid (∀ j (h : j < l.length), j < i + 1 → oneRo l l[j] = true) := fun j h hj => by
              rcases Nat.lt_or_ge j i with h' | h'
              · exact HK.out j h h'
              · obtain rfl : j = i := by omega
                rw [HCE.out, HFT.out, HM1.out, decide_eq_true hm16]
                rfl
            go_wp2
            exact ⟨⟨i + 1, by go_num, by omega, D, HK2, HJ2⟩, by simp [intOf]; omega⟩
          | true =>
          obtain ⟨m2, hm2⟩ : ∃ b, emptyI ⟨c', d', e', f', g'⟩ = b := ⟨_, rfl⟩
          have HM2 := Lib.hid hm2
          clear hm2
          obtain ⟨u0, u1, u2, u3, u4, u5, u6, uz⟩ := cellsEn a_ b_ c_ d_ e_ f_ g_ hbX
          obtain ⟨⟨y0, y1, y2, y3, y4⟩, -, yz⟩ := iopen hy
          go_wp2_with fail
          with_reducible refine (re_ (refEmptyI_calls c' d' e' f' g' _) (ret_bool HM2.out)).mono ?_
          rintro e w11 ⟨rfl, b11⟩
          replace hbX := hcall hbX b11
          replace hy := hcall hy b11
          replace D := below_call D b11
          clear b11 u0 u1 u2 u3 u4 u5 u6 uz y0 y1 y2 y3 y4 yz
          cases m2 with
          | false =>
            have HK2 : Hid (∀ j (h : j < l.length), j < i + 1 → oneRo l l[j] = true) := fun j h hj => by
              rcases Nat.lt_or_ge j i with h' | h'
              · exact HK.out j h h'
              · obtain rfl : j = i := by omega
                rw [HCE.out, HFT.out, HM1.out, decide_eq_true hm16]
                rw [HM2.out]
                rfl
            go_wp2
            exact ⟨⟨i + 1, by go_num, by omega, D, HK2, HJ2⟩, by simp [intOf]; omega⟩
          | true =>
            have HF : Hid (r = false) := by
              show _ = _
              rw [← HR.out]
              exact mayRo_no_one (List.getElem_mem hil) (by rw [HCE.out, HFT.out, HM1.out, HM2.out]; simp)
            go_wp2
            go_ret
            rw [HF.out]
            exact ⟨rfl, D⟩
        · have d1 : decide ((16 : Int) < (m : Int)) = true := decide_eq_true (by omega)
          have d2 : decide (16 < m) = true := decide_eq_true (by omega)
          have HF : Hid (r = false) := by
            show _ = _
            rw [← HR.out]
            exact mayRo_no_one (List.getElem_mem hil) (by rw [HCE.out, decide_eq_false hm16]; rfl)
          clear uz
          replace hbX : (wr.alloc (bxEn a_ b_ c_ d_ e_ f_ g_)).drew.heap[_]? = _ := hbX
          replace D : Below _ _ (wr.alloc (bxEn a_ b_ c_ d_ e_ f_ g_)).drew := D.drew
          go_wp2_with fail
          refine Held.start (ops := opskf2) (S := fun w' => w'.cell? ⟨wr.heap.size, 0, none⟩ = some (.string a_) ∧ w'.cell? ⟨wr.heap.size, 1, none⟩ = some (.string b_) ∧ w'.cell? ⟨wr.heap.size, 2, none⟩ = some (.bool c_) ∧ w'.cell? ⟨wr.heap.size, 3, none⟩ = some (.bool d_) ∧ w'.cell? ⟨wr.heap.size, 4, none⟩ = some (.bool e_) ∧ w'.cell? ⟨wr.heap.size, 5, none⟩ = some (.bool f_) ∧ w'.cell? ⟨wr.heap.size, 6, none⟩ = some (.bool g_) ∧ w'.cell? (ad.add (q * 7)) = some (.string p_) ∧ w'.cell? ⟨(ad.add (q * 7)).block, (ad.add (q * 7)).off + 1, none⟩ = some (.string q_) ∧ w'.cell? ⟨(ad.add (q * 7)).block, (ad.add (q * 7)).off + 2, none⟩ = some (.bool r_) ∧ w'.cell? ⟨(ad.add (q * 7)).block, (ad.add (q * 7)).off + 3, none⟩ = some (.bool s_) ∧ w'.cell? ⟨(ad.add (q * 7)).block, (ad.add (q * 7)).off + 4, none⟩ = some (.bool t_) ∧ w'.cell? ⟨(ad.add (q * 7)).block, (ad.add (q * 7)).off + 5, none⟩ = some (.bool v_) ∧ w'.cell? ⟨(ad.add (q * 7)).block, (ad.add (q * 7)).off + 6, none⟩ = some (.bool x_)) ordkf2 39 (by kernel_rfl) sizkf2 (by kernel_rfl) ⟨u0, u1, u2, u3, u4, u5, u6, p0, p1, p2, p3, p4, p5, p6⟩ (fun hHeld => ?_)
          refine Held.take (k := 0) (i := 0) (v := ?vkf20) noskf2 okkkf2_0 sizkf2 (by kernel_rfl) rfl (fun _ _ _ h => h) (Or.inl ⟨by kernel_rfl, ?hykf20⟩) (by assumption) ?restkf20
          case hykf20 => (intro w hSw; (try dsimp only at hSw); go_simp; (try (first | with_reducible rfl | rw [if_neg (by omega)])))
          try simp only [Act.put, List.getElem_toArray, List.getElem_cons_succ, List.getElem_cons_zero, List.setIfInBounds_toArray, List.set_cons_zero, List.set_cons_succ]
          refine Held.take (k := 1) (i := 1) (v := ?vkf21) noskf2 okkkf2_1 sizkf2 (by kernel_rfl) rfl (fun _ _ _ h => h) (Or.inl ⟨by kernel_rfl, ?hykf21⟩) (by assumption) ?restkf21
          case hykf21 => (intro w hSw; (try dsimp only at hSw); go_simp; (try (first | with_reducible rfl | rw [if_neg (by omega)])))
          try simp only [Act.put, List.getElem_toArray, List.getElem_cons_succ, List.getElem_cons_zero, List.setIfInBounds_toArray, List.set_cons_zero, List.set_cons_succ]
          refine Held.only (k := 2) (i := 2) rdykf2_2 (by kernel_rfl) rfl (by kernel_rfl) (fun K hK => ?_)
          go_simp
          go_at_call 40
          with_reducible refine (refIs_below a_ _ HNa_ (by omega) _).mono ?_
          rintro e w3 ⟨rfl, hbx⟩
          replace u0 := cell_below hbx u0
          replace u1 := cell_below hbx u1
          replace u2 := cell_below hbx u2
          replace u3 := cell_below hbx u3
          replace u4 := cell_below hbx u4
          replace u5 := cell_below hbx u5
          replace u6 := cell_below hbx u6
          replace p0 := cell_below hbx p0
          replace p1 := cell_below hbx p1
          replace p2 := cell_below hbx p2
          replace p3 := cell_below hbx p3
          replace p4 := cell_below hbx p4
          replace p5 := cell_below hbx p5
          replace p6 := cell_below hbx p6
          replace hbX := hcall hbX hbx
          replace D := below_call D hbx
          refine hK.out _ _ (by (try dsimp only); (exact ⟨u0, u1, u2, u3, u4, u5, u6, p0, p1, p2, p3, p4, p5, p6⟩)) (fun hHeld => ?_)
          clear hK K
          try simp only [Act.put, List.getElem_toArray, List.getElem_cons_succ, List.getElem_cons_zero, List.setIfInBounds_toArray, List.set_cons_zero, List.set_cons_succ]
          refine Held.take (k := 3) (i := 3) (v := ?vkf23) noskf2 okkkf2_3 sizkf2 (by kernel_rfl) rfl (fun _ _ _ h => h) (Or.inl ⟨by kernel_rfl, ?hykf23⟩) (by assumption) ?restkf23
          case hykf23 => (intro w hSw; (try dsimp only at hSw); go_simp; (try (first | with_reducible rfl | rw [if_neg (by omega)])))
          try simp only [Act.put, List.getElem_toArray, List.getElem_cons_succ, List.getElem_cons_zero, List.setIfInBounds_toArray, List.set_cons_zero, List.set_cons_succ]
          refine Held.take (k := 4) (i := 4) (v := ?vkf24) noskf2 okkkf2_4 sizkf2 (by kernel_rfl) rfl (fun _ _ _ h => h) (Or.inl ⟨by kernel_rfl, ?hykf24⟩) (by assumption) ?restkf24
          case hykf24 => (intro w hSw; (try dsimp only at hSw); go_simp; (try (first | with_reducible rfl | rw [if_neg (by omega)])))
          try simp only [Act.put, List.getElem_toArray, List.getElem_cons_succ, List.getElem_cons_zero, List.setIfInBounds_toArray, List.set_cons_zero, List.set_cons_succ]
          refine Held.take (k := 5) (i := 5) (v := ?vkf25) noskf2 okkkf2_5 sizkf2 (by kernel_rfl) rfl (fun _ _ _ h => h) (Or.inl ⟨by kernel_rfl, ?hykf25⟩) (by assumption) ?restkf25
          case hykf25 => (intro w hSw; (try dsimp only at hSw); go_simp; (try (first | with_reducible rfl | rw [if_neg (by omega)])))
          try simp only [Act.put, List.getElem_toArray, List.getElem_cons_succ, List.getElem_cons_zero, List.setIfInBounds_toArray, List.set_cons_zero, List.set_cons_succ]
          refine Held.take (k := 6) (i := 6) (v := ?vkf26) noskf2 okkkf2_6 sizkf2 (by kernel_rfl) rfl (fun _ _ _ h => h) (Or.inl ⟨by kernel_rfl, ?hykf26⟩) (by assumption) ?restkf26
          case hykf26 => (intro w hSw; (try dsimp only at hSw); go_simp; (try (first | with_reducible rfl | rw [if_neg (by omega)])))
          try simp only [Act.put, List.getElem_toArray, List.getElem_cons_succ, List.getElem_cons_zero, List.setIfInBounds_toArray, List.set_cons_zero, List.set_cons_succ]
          refine Held.only (k := 7) (i := 7) rdykf2_7 (by kernel_rfl) rfl (by kernel_rfl) (fun K hK => ?_)
          go_simp
          go_at_call 40
          with_reducible refine (refIs_below b_ _ HNb_ (by omega) _).mono ?_
          rintro e w4 ⟨rfl, hbx⟩
          replace u0 := cell_below hbx u0
          replace u1 := cell_below hbx u1
          replace u2 := cell_below hbx u2
          replace u3 := cell_below hbx u3
          replace u4 := cell_below hbx u4
          replace u5 := cell_below hbx u5
          replace u6 := cell_below hbx u6
          replace p0 := cell_below hbx p0
          replace p1 := cell_below hbx p1
          replace p2 := cell_below hbx p2
          replace p3 := cell_below hbx p3
          replace p4 := cell_below hbx p4
          replace p5 := cell_below hbx p5
          replace p6 := cell_below hbx p6
          replace hbX := hcall hbX hbx
          replace D := below_call D hbx
          refine hK.out _ _ (by (try dsimp only); (exact ⟨u0, u1, u2, u3, u4, u5, u6, p0, p1, p2, p3, p4, p5, p6⟩)) (fun hHeld => ?_)
          clear hK K
          try simp only [Act.put, List.getElem_toArray, List.getElem_cons_succ, List.getElem_cons_zero, List.setIfInBounds_toArray, List.set_cons_zero, List.set_cons_succ]
          refine Held.take (k := 8) (i := 8) (v := ?vkf28) noskf2 okkkf2_8 sizkf2 (by kernel_rfl) rfl (fun _ _ _ h => h) (Or.inl ⟨by kernel_rfl, ?hykf28⟩) (by assumption) ?restkf28
          case hykf28 => (intro w hSw; (try dsimp only at hSw); go_simp; (try (first | with_reducible rfl | rw [if_neg (by omega)])))
          try simp only [Act.put, List.getElem_toArray, List.getElem_cons_succ, List.getElem_cons_zero, List.setIfInBounds_toArray, List.set_cons_zero, List.set_cons_succ]
          refine Held.take (k := 9) (i := 9) (v := ?vkf29) noskf2 okkkf2_9 sizkf2 (by kernel_rfl) rfl (fun _ _ _ h => h) (Or.inl ⟨by kernel_rfl, ?hykf29⟩) (by assumption) ?restkf29
          case hykf29 => (intro w hSw; (try dsimp only at hSw); go_simp; (try (first | with_reducible rfl | rw [if_neg (by omega)])))
          try simp only [Act.put, List.getElem_toArray, List.getElem_cons_succ, List.getElem_cons_zero, List.setIfInBounds_toArray, List.set_cons_zero, List.set_cons_succ]
          refine Held.take (k := 10) (i := 10) (v := ?vkf210) noskf2 okkkf2_10 sizkf2 (by kernel_rfl) rfl (fun _ _ _ h => h) (Or.inl ⟨by kernel_rfl, ?hykf210⟩) (by assumption) ?restkf210
          case hykf210 => (intro w hSw; (try dsimp only at hSw); go_simp; (try (first | with_reducible rfl | rw [if_neg (by omega)])))
          try simp only [Act.put, List.getElem_toArray, List.getElem_cons_succ, List.getElem_cons_zero, List.setIfInBounds_toArray, List.set_cons_zero, List.set_cons_succ]
          refine Held.take (k := 11) (i := 11) (v := ?vkf211) noskf2 okkkf2_11 sizkf2 (by kernel_rfl) rfl (fun _ _ _ h => h) (Or.inl ⟨by kernel_rfl, ?hykf211⟩) (by assumption) ?restkf211
          case hykf211 => (intro w hSw; (try dsimp only at hSw); go_simp; (try (first | with_reducible rfl | rw [if_neg (by omega)])))
          try simp only [Act.put, List.getElem_toArray, List.getElem_cons_succ, List.getElem_cons_zero, List.setIfInBounds_toArray, List.set_cons_zero, List.set_cons_succ]
          refine Held.take (k := 12) (i := 12) (v := ?vkf212) noskf2 okkkf2_12 sizkf2 (by kernel_rfl) rfl (fun _ _ _ h => h) (Or.inl ⟨by kernel_rfl, ?hykf212⟩) (by assumption) ?restkf212
          case hykf212 => (intro w hSw; (try dsimp only at hSw); go_simp; (try (first | with_reducible rfl | rw [if_neg (by omega)])))
          try simp only [Act.put, List.getElem_toArray, List.getElem_cons_succ, List.getElem_cons_zero, List.setIfInBounds_toArray, List.set_cons_zero, List.set_cons_succ]
          refine Held.take (k := 13) (i := 13) (v := ?vkf213) noskf2 okkkf2_13 sizkf2 (by kernel_rfl) rfl (fun _ _ _ h => h) (Or.inl ⟨by kernel_rfl, ?hykf213⟩) (by assumption) ?restkf213
          case hykf213 => (intro w hSw; (try dsimp only at hSw); go_simp; (try (first | with_reducible rfl | rw [if_neg (by omega)])))
          try simp only [Act.put, List.getElem_toArray, List.getElem_cons_succ, List.getElem_cons_zero, List.setIfInBounds_toArray, List.set_cons_zero, List.set_cons_succ]
          refine Held.take (k := 14) (i := 14) (v := ?vkf214) noskf2 okkkf2_14 sizkf2 (by kernel_rfl) rfl (fun _ _ _ h => h) (Or.inl ⟨by kernel_rfl, ?hykf214⟩) (by assumption) ?restkf214
          case hykf214 => (intro w hSw; (try dsimp only at hSw); go_simp; (try (first | with_reducible rfl | rw [if_neg (by omega)])))
          try simp only [Act.put, List.getElem_toArray, List.getElem_cons_succ, List.getElem_cons_zero, List.setIfInBounds_toArray, List.set_cons_zero, List.set_cons_succ]
          refine Held.take (k := 15) (i := 15) (v := ?vkf215) noskf2 okkkf2_15 sizkf2 (by kernel_rfl) rfl (fun _ _ _ h => h) (Or.inl ⟨by kernel_rfl, ?hykf215⟩) (by assumption) ?restkf215
          case hykf215 => (intro w hSw; (try dsimp only at hSw); go_simp; (try (first | with_reducible rfl | rw [if_neg (by omega)])))
          try simp only [Act.put, List.getElem_toArray, List.getElem_cons_succ, List.getElem_cons_zero, List.setIfInBounds_toArray, List.set_cons_zero, List.set_cons_succ]
          refine Held.take (k := 16) (i := 16) (v := ?vkf216) noskf2 okkkf2_16 sizkf2 (by kernel_rfl) rfl (fun _ _ _ h => h) (Or.inl ⟨by kernel_rfl, ?hykf216⟩) (by assumption) ?restkf216
          case hykf216 => (intro w hSw; (try dsimp only at hSw); go_simp; (try (first | with_reducible rfl | rw [if_neg (by omega)])))
          try simp only [Act.put, List.getElem_toArray, List.getElem_cons_succ, List.getElem_cons_zero, List.setIfInBounds_toArray, List.set_cons_zero, List.set_cons_succ]
          refine Held.take (k := 17) (i := 17) (v := ?vkf217) noskf2 okkkf2_17 sizkf2 (by kernel_rfl) rfl (fun _ _ _ h => h) (Or.inl ⟨by kernel_rfl, ?hykf217⟩) (by assumption) ?restkf217
          case hykf217 => (intro w hSw; (try dsimp only at hSw); go_simp; (try (first | with_reducible rfl | rw [if_neg (by omega)])))
          try simp only [Act.put, List.getElem_toArray, List.getElem_cons_succ, List.getElem_cons_zero, List.setIfInBounds_toArray, List.set_cons_zero, List.set_cons_succ]
          refine Held.take (k := 18) (i := 18) (v := ?vkf218) noskf2 okkkf2_18 sizkf2 (by kernel_rfl) rfl (fun _ _ _ h => h) (Or.inl ⟨by kernel_rfl, ?hykf218⟩) (by assumption) ?restkf218
          case hykf218 => (intro w hSw; (try dsimp only at hSw); go_simp; (try (first | with_reducible rfl | rw [if_neg (by omega)])))
          try simp only [Act.put, List.getElem_toArray, List.getElem_cons_succ, List.getElem_cons_zero, List.setIfInBounds_toArray, List.set_cons_zero, List.set_cons_succ]
          refine Held.take (k := 19) (i := 19) (v := ?vkf219) noskf2 okkkf2_19 sizkf2 (by kernel_rfl) rfl (fun _ _ _ h => h) (Or.inl ⟨by kernel_rfl, ?hykf219⟩) (by assumption) ?restkf219
          case hykf219 => (intro w hSw; (try dsimp only at hSw); go_simp; (try (first | with_reducible rfl | rw [if_neg (by omega)])))
          try simp only [Act.put, List.getElem_toArray, List.getElem_cons_succ, List.getElem_cons_zero, List.setIfInBounds_toArray, List.set_cons_zero, List.set_cons_succ]
          refine Held.take (k := 20) (i := 20) (v := ?vkf220) noskf2 okkkf2_20 sizkf2 (by kernel_rfl) rfl (fun _ _ _ h => h) (Or.inl ⟨by kernel_rfl, ?hykf220⟩) (by assumption) ?restkf220
          case hykf220 => (intro w hSw; (try dsimp only at hSw); go_simp; (try (first | with_reducible rfl | rw [if_neg (by omega)])))
          try simp only [Act.put, List.getElem_toArray, List.getElem_cons_succ, List.getElem_cons_zero, List.setIfInBounds_toArray, List.set_cons_zero, List.set_cons_succ]
          refine Held.take (k := 21) (i := 21) (v := ?vkf221) noskf2 okkkf2_21 sizkf2 (by kernel_rfl) rfl (fun _ _ _ h => h) (Or.inl ⟨by kernel_rfl, ?hykf221⟩) (by assumption) ?restkf221
          case hykf221 => (intro w hSw; (try dsimp only at hSw); go_simp; (try (first | with_reducible rfl | rw [if_neg (by omega)])))
          try simp only [Act.put, List.getElem_toArray, List.getElem_cons_succ, List.getElem_cons_zero, List.setIfInBounds_toArray, List.set_cons_zero, List.set_cons_succ]
          refine Held.take (k := 22) (i := 22) (v := ?vkf222) noskf2 okkkf2_22 sizkf2 (by kernel_rfl) rfl (fun _ _ _ h => h) (Or.inl ⟨by kernel_rfl, ?hykf222⟩) (by assumption) ?restkf222
          case hykf222 => (intro w hSw; (try dsimp only at hSw); go_simp; (try (first | with_reducible rfl | rw [if_neg (by omega)])))
          try simp only [Act.put, List.getElem_toArray, List.getElem_cons_succ, List.getElem_cons_zero, List.setIfInBounds_toArray, List.set_cons_zero, List.set_cons_succ]
          refine Held.take (k := 23) (i := 23) (v := ?vkf223) noskf2 okkkf2_23 sizkf2 (by kernel_rfl) rfl (fun _ _ _ h => h) (Or.inl ⟨by kernel_rfl, ?hykf223⟩) (by assumption) ?restkf223
          case hykf223 => (intro w hSw; (try dsimp only at hSw); go_simp; (try (first | with_reducible rfl | rw [if_neg (by omega)])))
          try simp only [Act.put, List.getElem_toArray, List.getElem_cons_succ, List.getElem_cons_zero, List.setIfInBounds_toArray, List.set_cons_zero, List.set_cons_succ]
          refine Held.take (k := 24) (i := 24) (v := ?vkf224) noskf2 okkkf2_24 sizkf2 (by kernel_rfl) rfl (fun _ _ _ h => h) (Or.inl ⟨by kernel_rfl, ?hykf224⟩) (by assumption) ?restkf224
          case hykf224 => (intro w hSw; (try dsimp only at hSw); go_simp; (try (first | with_reducible rfl | rw [if_neg (by omega)])))
          try simp only [Act.put, List.getElem_toArray, List.getElem_cons_succ, List.getElem_cons_zero, List.setIfInBounds_toArray, List.set_cons_zero, List.set_cons_succ]
          refine Held.take (k := 25) (i := 25) (v := ?vkf225) noskf2 okkkf2_25 sizkf2 (by kernel_rfl) rfl (fun _ _ _ h => h) (Or.inl ⟨by kernel_rfl, ?hykf225⟩) (by assumption) ?restkf225
          case hykf225 => (intro w hSw; (try dsimp only at hSw); go_simp; (try (first | with_reducible rfl | rw [if_neg (by omega)])))
          try simp only [Act.put, List.getElem_toArray, List.getElem_cons_succ, List.getElem_cons_zero, List.setIfInBounds_toArray, List.set_cons_zero, List.set_cons_succ]
          refine Held.take (k := 26) (i := 26) (v := ?vkf226) noskf2 okkkf2_26 sizkf2 (by kernel_rfl) rfl (fun _ _ _ h => h) (Or.inl ⟨by kernel_rfl, ?hykf226⟩) (by assumption) ?restkf226
          case hykf226 => (intro w hSw; (try dsimp only at hSw); go_simp; (try (first | with_reducible rfl | rw [if_neg (by omega)])))
          try simp only [Act.put, List.getElem_toArray, List.getElem_cons_succ, List.getElem_cons_zero, List.setIfInBounds_toArray, List.set_cons_zero, List.set_cons_succ]
          refine Held.only (k := 27) (i := 27) rdykf2_27 (by kernel_rfl) rfl (by kernel_rfl) (fun K hK => ?_)
          go_simp
          go_at_call 41
          with_reducible refine (re_ (refAheadR_calls p_ q_ r_ s_ t_ v_ x_ a_ b_ c_ d_ e_ f_ g_ _) (ret_bool HBL.out)).mono ?_
          rintro e w5 ⟨rfl, hbx⟩
          replace u0 := cell_below hbx u0
          replace u1 := cell_below hbx u1
          replace u2 := cell_below hbx u2
          replace u3 := cell_below hbx u3
          replace u4 := cell_below hbx u4
          replace u5 := cell_below hbx u5
          replace u6 := cell_below hbx u6
          replace p0 := cell_below hbx p0
          replace p1 := cell_below hbx p1
          replace p2 := cell_below hbx p2
          replace p3 := cell_below hbx p3
          replace p4 := cell_below hbx p4
          replace p5 := cell_below hbx p5
          replace p6 := cell_below hbx p6
          replace hbX := hcall hbX hbx
          replace D := below_call D hbx
          refine hK.out _ _ (by (try dsimp only); (exact ⟨u0, u1, u2, u3, u4, u5, u6, p0, p1, p2, p3, p4, p5, p6⟩)) (fun hHeld => ?_)
          clear hK K
          try simp only [Act.put, List.getElem_toArray, List.getElem_cons_succ, List.getElem_cons_zero, List.setIfInBounds_toArray, List.set_cons_zero, List.set_cons_succ]
          refine Held.take (k := 28) (i := 28) (v := ?vkf228) noskf2 okkkf2_28 sizkf2 (by kernel_rfl) rfl (fun _ _ _ h => h) (Or.inl ⟨by kernel_rfl, ?hykf228⟩) (by assumption) ?restkf228
          case hykf228 => (intro w hSw; (try dsimp only at hSw); go_simp; (try (first | with_reducible rfl | rw [if_neg (by omega)])))
          try simp only [Act.put, List.getElem_toArray, List.getElem_cons_succ, List.getElem_cons_zero, List.setIfInBounds_toArray, List.set_cons_zero, List.set_cons_succ]
          refine Held.take (k := 29) (i := 29) (v := ?vkf229) noskf2 okkkf2_29 sizkf2 (by kernel_rfl) rfl (fun _ _ _ h => h) (Or.inl ⟨by kernel_rfl, ?hykf229⟩) (by assumption) ?restkf229
          case hykf229 => (intro w hSw; (try dsimp only at hSw); go_simp; (try (first | with_reducible rfl | rw [if_neg (by omega)])))
          try simp only [Act.put, List.getElem_toArray, List.getElem_cons_succ, List.getElem_cons_zero, List.setIfInBounds_toArray, List.set_cons_zero, List.set_cons_succ]
          refine Held.take (k := 30) (i := 30) (v := ?vkf230) noskf2 okkkf2_30 sizkf2 (by kernel_rfl) rfl (fun _ _ _ h => h) (Or.inl ⟨by kernel_rfl, ?hykf230⟩) (by assumption) ?restkf230
          case hykf230 => (intro w hSw; (try dsimp only at hSw); go_simp; (try (first | with_reducible rfl | rw [if_neg (by omega)])))
          try simp only [Act.put, List.getElem_toArray, List.getElem_cons_succ, List.getElem_cons_zero, List.setIfInBounds_toArray, List.set_cons_zero, List.set_cons_succ]
          refine Held.take (k := 31) (i := 31) (v := ?vkf231) noskf2 okkkf2_31 sizkf2 (by kernel_rfl) rfl (fun _ _ _ h => h) (Or.inl ⟨by kernel_rfl, ?hykf231⟩) (by assumption) ?restkf231
          case hykf231 => (intro w hSw; (try dsimp only at hSw); go_simp; (try (first | with_reducible rfl | rw [if_neg (by omega)])))
          try simp only [Act.put, List.getElem_toArray, List.getElem_cons_succ, List.getElem_cons_zero, List.setIfInBounds_toArray, List.set_cons_zero, List.set_cons_succ]
          refine Held.take (k := 32) (i := 32) (v := ?vkf232) noskf2 okkkf2_32 sizkf2 (by kernel_rfl) rfl (fun _ _ _ h => h) (Or.inl ⟨by kernel_rfl, ?hykf232⟩) (by assumption) ?restkf232
          case hykf232 => (intro w hSw; (try dsimp only at hSw); go_simp; (try (first | with_reducible rfl | rw [if_neg (by omega)])))
          try simp only [Act.put, List.getElem_toArray, List.getElem_cons_succ, List.getElem_cons_zero, List.setIfInBounds_toArray, List.set_cons_zero, List.set_cons_succ]
          refine Held.take (k := 33) (i := 33) (v := ?vkf233) noskf2 okkkf2_33 sizkf2 (by kernel_rfl) rfl (fun _ _ _ h => h) (Or.inl ⟨by kernel_rfl, ?hykf233⟩) (by assumption) ?restkf233
          case hykf233 => (intro w hSw; (try dsimp only at hSw); go_simp; (try (first | with_reducible rfl | rw [if_neg (by omega)])))
          try simp only [Act.put, List.getElem_toArray, List.getElem_cons_succ, List.getElem_cons_zero, List.setIfInBounds_toArray, List.set_cons_zero, List.set_cons_succ]
          refine Held.take (k := 34) (i := 34) (v := ?vkf234) noskf2 okkkf2_34 sizkf2 (by kernel_rfl) rfl (fun _ _ _ h => h) (Or.inl ⟨by kernel_rfl, ?hykf234⟩) (by assumption) ?restkf234
          case hykf234 => (intro w hSw; (try dsimp only at hSw); go_simp; (try (first | with_reducible rfl | rw [if_neg (by omega)])))
          try simp only [Act.put, List.getElem_toArray, List.getElem_cons_succ, List.getElem_cons_zero, List.setIfInBounds_toArray, List.set_cons_zero, List.set_cons_succ]
          refine Held.only (k := 35) (i := 35) rdykf2_35 (by kernel_rfl) rfl (by kernel_rfl) (fun K hK => ?_)
          go_simp
          go_at_call 18
          with_reducible refine (refOfLen n c _ l a_ _ (hl.below D) hn m HM).mono ?_
          rintro e w6 ⟨⟨Ao, co, rfl⟩, hbx⟩
          replace u0 := cell_below hbx u0
          replace u1 := cell_below hbx u1
          replace u2 := cell_below hbx u2
          replace u3 := cell_below hbx u3
          replace u4 := cell_below hbx u4
          replace u5 := cell_below hbx u5
          replace u6 := cell_below hbx u6
          replace p0 := cell_below hbx p0
          replace p1 := cell_below hbx p1
          replace p2 := cell_below hbx p2
          replace p3 := cell_below hbx p3
          replace p4 := cell_below hbx p4
          replace p5 := cell_below hbx p5
          replace p6 := cell_below hbx p6
          replace hbX := hcall hbX hbx
          replace D := below_call D hbx
          refine hK.out _ _ (by (try dsimp only); (exact ⟨u0, u1, u2, u3, u4, u5, u6, p0, p1, p2, p3, p4, p5, p6⟩)) (fun hHeld => ?_)
          clear hK K
          try simp only [Act.put, List.getElem_toArray, List.getElem_cons_succ, List.getElem_cons_zero, List.setIfInBounds_toArray, List.set_cons_zero, List.set_cons_succ]
          refine Held.take (k := 36) (i := 36) (v := ?vkf236) noskf2 okkkf2_36 sizkf2 (by kernel_rfl) rfl (fun _ _ _ h => h) (Or.inl ⟨by kernel_rfl, ?hykf236⟩) (by assumption) ?restkf236
          case hykf236 => (intro w hSw; (try dsimp only at hSw); go_simp; (try (first | with_reducible rfl | rw [if_neg (by omega)])))
          try simp only [Act.put, List.getElem_toArray, List.getElem_cons_succ, List.getElem_cons_zero, List.setIfInBounds_toArray, List.set_cons_zero, List.set_cons_succ]
          refine Held.take (k := 37) (i := 37) (v := ?vkf237) noskf2 okkkf2_37 sizkf2 (by kernel_rfl) rfl (fun _ _ _ h => h) (Or.inl ⟨by kernel_rfl, ?hykf237⟩) (by assumption) ?restkf237
          case hykf237 => (intro w hSw; (try dsimp only at hSw); go_simp; (try (first | with_reducible rfl | rw [if_neg (by omega)])))
          try simp only [Act.put, List.getElem_toArray, List.getElem_cons_succ, List.getElem_cons_zero, List.setIfInBounds_toArray, List.set_cons_zero, List.set_cons_succ]
          refine Held.take (k := 38) (i := 38) (v := ?vkf238) noskf2 okkkf2_38 sizkf2 (by kernel_rfl) rfl (fun _ _ _ h => h) (Or.inl ⟨by kernel_rfl, ?hykf238⟩) (by assumption) ?restkf238
          case hykf238 => (intro w hSw; (try dsimp only at hSw); go_simp; (try (first | with_reducible rfl | rw [if_neg (by omega)])))
          try simp only [Act.put, List.getElem_toArray, List.getElem_cons_succ, List.getElem_cons_zero, List.setIfInBounds_toArray, List.set_cons_zero, List.set_cons_succ]
          refine wpAnyH_done (by kernel_rfl) ?_ _
          clear u0 u1 u2 u3 u4 u5 u6 p0 p1 p2 p3 p4 p5 p6
          go_wp2
          go_ret
          rw [HF.out]
          exact ⟨rfl, D⟩
    · have hin : i = n := by omega
      subst hin
      have HF : Hid (r = true) := by
        show _ = _
        rw [← HR.out, mayRo_iff]
        refine ⟨fun s hs => ?_, fun j h => HJ.out j h (by have := EA.out; omega)⟩
        obtain ⟨j, hj, rfl⟩ := List.getElem_of_mem hs
        exact HK.out j hj (by have := EA.out; omega)
      go_wp2
      go_ret
      rw [HF.out]
      exact ⟨rfl, D⟩
end Go.Proofs.Ytpmafghknafhaaa
