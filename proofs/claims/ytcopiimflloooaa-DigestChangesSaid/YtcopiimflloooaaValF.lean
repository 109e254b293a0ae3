/-
Layer 4: a value as bytes, taken: all ways as one contract.
-/
import Derived.Test.YtcopiimflloooaaValE
set_option linter.unusedVariables false
set_option linter.unusedSimpArgs false
namespace Go.Proofs.Ytcopiimflloooaa
open Go.RowKit
open Sp
set_option maxHeartbeats 4000000 in
set_option maxRecDepth 100000 in
theorem valTake_8b (s : ByteArray) (m : Nat) (x y n : Nat) (next to : Int) (t : ByteArray) (w : World) (hs : s.size ≤ 140737488351232) (h : m + 2 ≤ s.size) (hx : (s[m]'(by omega)).toNat = x) (hy : (s[m + 1]'(by omega)).toNat = y)
    (hg : Hid (getV s ((m : Int) + 2) = (n, next, 0))) (ht : Hid (takeV s next 32 = (t, to, 0))) (hn : n ≤ 1099511627777) (hts : t.size ≤ 32) (hm : Hid (mayV x ((y : Int) + -128) n t = false)) :
    Calls Try.prog 76 #[.string s, .int .i64 m] w fun e w' => e = .returned (.tuple #[encV zeroV, .int .i64 0, .int .i64 3]) ∧ Below w.heap.size w w' := by
  have hx0 : x < 256 := by rw [← hx]; exact UInt8.toNat_lt _
  have hy0 : y < 256 := by rw [← hy]; exact UInt8.toNat_lt _
  go_enter Try.func76, Try.ntmps76
  go_wp2_with fail
  refine (varGet_is s _ n next 0 _ hs hg).mono ?_
  rintro e w1 ⟨rfl, rfl⟩
  go_wp2_with fail
  refine (varTake_is s next 32 t to 0 _ hs (by omega) (by omega) ht).mono ?_
  rintro e w1 ⟨rfl, rfl⟩
  go_wp2_with fail
  go_region
  go_wp2_with fail
  refine (may_is _ _ _ t false _ (by omega) hm).mono ?_
  rintro e w2 ⟨rfl, b2⟩
  have hz : (w.alloc (.cells #[.int .i64 0, .int .i64 0, .int .i64 0, .string ⟨#[]⟩] 32)).heap.size = w.heap.size + 1 := Array.size_push ..
  have hnew : S4 (w.heap.size + 1) x ((y : Int) + -128) n t w2 := by
    refine S4.below (W := ((w.alloc (.cells #[.int .i64 0, .int .i64 0, .int .i64 0, .string ⟨#[]⟩] 32)).alloc (.cells #[.int .i64 x, .int .i64 ((y : Int) + -128), .int .i64 n, .string t] 32)).drew) (S4.drew ?_) b2
    rw [← hz]
    exact ⟨cell_new _ _ _ _ _ rfl, cell_new _ _ _ _ _ rfl, cell_new _ _ _ _ _ rfl, cell_new _ _ _ _ _ rfl⟩
  have hold : w2.heap[w.heap.size]? = some (.cells #[.int .i64 0, .int .i64 0, .int .i64 0, .string ⟨#[]⟩] 32 (0, 0)) := by
    refine (b2.block w.heap.size (Nat.lt_of_lt_of_le (by rw [hz]; omega) (Nat.le_of_lt (Nat.lt_of_lt_of_eq (Nat.lt_succ_self _) (Array.size_push ..).symm)))).trans ?_
    refine (Below.heap_alloc _ _ _ (by rw [hz]; omega)).trans ?_
    exact heap_alloc_new w _
  obtain ⟨c0, c1, c2, c3⟩ := hnew
  have o0 : w2.cell? ⟨w.heap.size, 0, none⟩ = some (.int .i64 0) := by simp [World.cell?, hold]
  have o1 : w2.cell? ⟨w.heap.size, 1, none⟩ = some (.int .i64 0) := by simp [World.cell?, hold]
  have o2 : w2.cell? ⟨w.heap.size, 2, none⟩ = some (.int .i64 0) := by simp [World.cell?, hold]
  have o3 : w2.cell? ⟨w.heap.size, 3, none⟩ = some (.string ⟨#[]⟩) := by simp [World.cell?, hold]
  have f0 : w2.frozen? ⟨w.heap.size, 0, none⟩ = false := by simp [World.frozen?, hold]
  have f1 : w2.frozen? ⟨w.heap.size, 1, none⟩ = false := by simp [World.frozen?, hold]
  have f2 : w2.frozen? ⟨w.heap.size, 2, none⟩ = false := by simp [World.frozen?, hold]
  have f3 : w2.frozen? ⟨w.heap.size, 3, none⟩ = false := by simp [World.frozen?, hold]
  have hB : Below w.heap.size w w2 := by
    have e1 : Below w.heap.size w ((w.alloc (.cells #[.int .i64 0, .int .i64 0, .int .i64 0, .string ⟨#[]⟩] 32)).alloc (.cells #[.int .i64 x, .int .i64 ((y : Int) + -128), .int .i64 n, .string t] 32)).drew := Below.drew (below_alloc0 (below_alloc0 (Below.refl _ _) _) _)
    exact below_call e1 b2
  go_wp2
  (try simp only [Exit.inBlock, Exit.then])
  refine bodyPost_ctt rfl w.heap.size 32 #[.int .i64 0, .int .i64 0, .int .i64 0, .string ⟨#[]⟩] (0, 0) _ rfl ?_ Try.underlying32 rfl info_val rfl ⟨rfl, ?_⟩
  · simp [World.setCell, Array.getElem?_modify, hold]
  · exact (((hB.setCell (p := ⟨w.heap.size, 0, none⟩) (Nat.le_refl _) _).setCell (p := ⟨w.heap.size, 1, none⟩) (Nat.le_refl _) _).setCell (p := ⟨w.heap.size, 2, none⟩) (Nat.le_refl _) _).setCell (p := ⟨w.heap.size, 3, none⟩) (Nat.le_refl _) _
set_option maxHeartbeats 4000000 in
set_option maxRecDepth 100000 in
theorem valTake_7 (s : ByteArray) (m : Nat) (x y n : Nat) (next to : Int) (t : ByteArray) (w : World) (hs : s.size ≤ 140737488351232) (h : m + 2 ≤ s.size) (hx : (s[m]'(by omega)).toNat = x) (hy : (s[m + 1]'(by omega)).toNat = y)
    (hg : Hid (getV s ((m : Int) + 2) = (n, next, 0))) (ht : Hid (takeV s next 32 = (t, to, 0))) (hn : 1099511627777 < n) (hni : (1099511627777 : Int) < (n : Int)) (hn2 : n < 18446744073709551616) (hts : t.size ≤ 32) (hm : Hid (mayV x ((y : Int) + -128) 1099511627777 t = false)) :
    Calls Try.prog 76 #[.string s, .int .i64 m] w fun e w' => e = .returned (.tuple #[encV zeroV, .int .i64 0, .int .i64 3]) ∧ Below w.heap.size w w' := by
  have hx0 : x < 256 := by rw [← hx]; exact UInt8.toNat_lt _
  have hy0 : y < 256 := by rw [← hy]; exact UInt8.toNat_lt _
  go_enter Try.func76, Try.ntmps76
  go_wp2_with fail
  refine (varGet_is s _ n next 0 _ hs hg).mono ?_
  rintro e w1 ⟨rfl, rfl⟩
  go_wp2_with fail
  refine (varTake_is s next 32 t to 0 _ hs (by omega) (by omega) ht).mono ?_
  rintro e w1 ⟨rfl, rfl⟩
  go_wp2_with fail
  go_region
  go_wp2_with fail
  refine (may_is _ _ _ t false _ (by omega) hm).mono ?_
  rintro e w2 ⟨rfl, b2⟩
  have hz : (w.alloc (.cells #[.int .i64 0, .int .i64 0, .int .i64 0, .string ⟨#[]⟩] 32)).heap.size = w.heap.size + 1 := Array.size_push ..
  have hnew : S4 (w.heap.size + 1) x ((y : Int) + -128) 1099511627777 t w2 := by
    refine S4.below (W := ((w.alloc (.cells #[.int .i64 0, .int .i64 0, .int .i64 0, .string ⟨#[]⟩] 32)).alloc (.cells #[.int .i64 x, .int .i64 ((y : Int) + -128), .int .i64 1099511627777, .string t] 32)).drew) (S4.drew ?_) b2
    rw [← hz]
    exact ⟨cell_new _ _ _ _ _ rfl, cell_new _ _ _ _ _ rfl, cell_new _ _ _ _ _ rfl, cell_new _ _ _ _ _ rfl⟩
  have hold : w2.heap[w.heap.size]? = some (.cells #[.int .i64 0, .int .i64 0, .int .i64 0, .string ⟨#[]⟩] 32 (0, 0)) := by
    refine (b2.block w.heap.size (Nat.lt_of_lt_of_le (by rw [hz]; omega) (Nat.le_of_lt (Nat.lt_of_lt_of_eq (Nat.lt_succ_self _) (Array.size_push ..).symm)))).trans ?_
    refine (Below.heap_alloc _ _ _ (by rw [hz]; omega)).trans ?_
    exact heap_alloc_new w _
  obtain ⟨c0, c1, c2, c3⟩ := hnew
  have o0 : w2.cell? ⟨w.heap.size, 0, none⟩ = some (.int .i64 0) := by simp [World.cell?, hold]
  have o1 : w2.cell? ⟨w.heap.size, 1, none⟩ = some (.int .i64 0) := by simp [World.cell?, hold]
  have o2 : w2.cell? ⟨w.heap.size, 2, none⟩ = some (.int .i64 0) := by simp [World.cell?, hold]
  have o3 : w2.cell? ⟨w.heap.size, 3, none⟩ = some (.string ⟨#[]⟩) := by simp [World.cell?, hold]
  have f0 : w2.frozen? ⟨w.heap.size, 0, none⟩ = false := by simp [World.frozen?, hold]
  have f1 : w2.frozen? ⟨w.heap.size, 1, none⟩ = false := by simp [World.frozen?, hold]
  have f2 : w2.frozen? ⟨w.heap.size, 2, none⟩ = false := by simp [World.frozen?, hold]
  have f3 : w2.frozen? ⟨w.heap.size, 3, none⟩ = false := by simp [World.frozen?, hold]
  have hB : Below w.heap.size w w2 := by
    have e1 : Below w.heap.size w ((w.alloc (.cells #[.int .i64 0, .int .i64 0, .int .i64 0, .string ⟨#[]⟩] 32)).alloc (.cells #[.int .i64 x, .int .i64 ((y : Int) + -128), .int .i64 1099511627777, .string t] 32)).drew := Below.drew (below_alloc0 (below_alloc0 (Below.refl _ _) _) _)
    exact below_call e1 b2
  go_wp2
  (try simp only [Exit.inBlock, Exit.then])
  refine bodyPost_ctt rfl w.heap.size 32 #[.int .i64 0, .int .i64 0, .int .i64 0, .string ⟨#[]⟩] (0, 0) _ rfl ?_ Try.underlying32 rfl info_val rfl ⟨rfl, ?_⟩
  · simp [World.setCell, Array.getElem?_modify, hold]
  · exact (((hB.setCell (p := ⟨w.heap.size, 0, none⟩) (Nat.le_refl _) _).setCell (p := ⟨w.heap.size, 1, none⟩) (Nat.le_refl _) _).setCell (p := ⟨w.heap.size, 2, none⟩) (Nat.le_refl _) _).setCell (p := ⟨w.heap.size, 3, none⟩) (Nat.le_refl _) _

theorem refTake04_calls (s : ByteArray) (a : Int) (w : World) (hs : s.size ≤ 140737488351232) :
    Calls Try.prog 79 #[.string s, .int .i64 a] w fun e w' => e = .returned (.tuple #[encV (takeVal s a).1, .int .i64 (takeVal s a).2.1, .int .i64 (takeVal s a).2.2]) ∧ Below w.heap.size w w' := by
  unfold takeVal
  by_cases h0 : a < 0
  · rw [if_pos (.inl h0)]; exact refTake04_1 s a w h0
  by_cases h1 : (s.size : Int) < a
  · rw [if_pos (.inr h1)]; exact refTake04_2 s a w (by omega) h1
  rw [if_neg (by omega)]
  by_cases h2 : (s.size : Int) - a < 2
  · rw [if_pos h2]; exact refTake04_3 s a w hs (by omega) (by omega) h2
  rw [if_neg h2]
  obtain ⟨m, rfl⟩ := Int.eq_ofNat_of_zero_le (show 0 ≤ a by omega)
  have hm2 : m + 2 ≤ s.size := by omega
  obtain ⟨n, next, er, hg⟩ : ∃ n next er, getV s ((m : Int) + 2) = (n, next, er) := ⟨_, _, _, rfl⟩
  simp only [hg]
  by_cases he : er = 0
  · subst he
    rw [if_neg (by simp)]
    have hn2 := (getV_ok s _ n next hg).2.2.2
    obtain ⟨t, to, er, ht⟩ : ∃ t to er, takeV s next 32 = (t, to, er) := ⟨_, _, _, rfl⟩
    simp only [ht]
    by_cases he : er = 0
    · subst he
      rw [if_neg (by simp)]
      have hts : t.size ≤ 32 := by
        have := (takeV_size s next 32 (by show (takeV s next 32).2.2 = 0; rw [ht])).1
        rw [show takeV s next (32 : Nat) = (t, to, 0) from ht] at this
        exact this
      have hgx : ∀ i (h : i < s.size), s.data.toList.getD i 0 = s[i] := fun i h => by
        have hl : i < s.data.toList.length := by rw [← size_eq_length]; exact h
        rw [List.getD_eq_getElem?_getD, List.getElem?_eq_getElem hl]; rfl
      rw [Int.toNat_natCast, hgx m (by omega), hgx (m + 1) (by omega)]
      obtain ⟨x, hx⟩ : ∃ x, (s[m]'(by omega)).toNat = x := ⟨_, rfl⟩
      obtain ⟨y, hy⟩ : ∃ y, (s[m + 1]'(by omega)).toNat = y := ⟨_, rfl⟩
      simp only [hx, hy]
      by_cases hn : 1099511627776 < n
      · have hmf2 : mayV x ((y : Int) - 128) n t = false := by
          cases hq : mayV x ((y : Int) - 128) n t with
          | false => rfl
          | true => have := (mayV_iff _ _ _ _).1 hq; omega
        rw [if_neg (by rw [hmf2]; exact Bool.false_ne_true)]
        exact refTake04_6 s m n next w hs hm2 t to hg ht hn
      · cases hq : mayV x ((y : Int) - 128) n t with
        | false =>
          rw [if_neg Bool.false_ne_true]
          exact refTake04_8 s m x y n next to t w hs hm2 hx hy hg ht (by omega) hts hq
        | true =>
          rw [if_pos rfl]
          have hnn := (mayV_iff _ _ _ _).1 hq
          have := refTake04_9 s m x y n next to t w hs hm2 hx hy hg ht (by omega) hts hq
          skip
          exact this
    · rw [if_pos he]
      exact refTake04_5 s m n next w hs hm2 t to er he hg ht
  · rw [if_pos he]
    exact refTake04_4 s m n next w hs hm2 er he hg

theorem valTake_calls (s : ByteArray) (a : Int) (w : World) (hs : s.size ≤ 140737488351232) :
    Calls Try.prog 76 #[.string s, .int .i64 a] w fun e w' => e = .returned (.tuple #[encV (takeVal s a).1, .int .i64 (takeVal s a).2.1, .int .i64 (takeVal s a).2.2]) ∧ Below w.heap.size w w' := by
  unfold takeVal
  by_cases h0 : a < 0
  · rw [if_pos (.inl h0)]; exact valTake_1 s a w h0
  by_cases h1 : (s.size : Int) < a
  · rw [if_pos (.inr h1)]; exact valTake_2 s a w (by omega) h1
  rw [if_neg (by omega)]
  by_cases h2 : (s.size : Int) - a < 2
  · rw [if_pos h2]; exact valTake_3 s a w hs (by omega) (by omega) h2
  rw [if_neg h2]
  obtain ⟨m, rfl⟩ := Int.eq_ofNat_of_zero_le (show 0 ≤ a by omega)
  have hm2 : m + 2 ≤ s.size := by omega
  obtain ⟨n, next, er, hg⟩ : ∃ n next er, getV s ((m : Int) + 2) = (n, next, er) := ⟨_, _, _, rfl⟩
  simp only [hg]
  by_cases he : er = 0
  · subst he
    rw [if_neg (by simp)]
    have hn2 := (getV_ok s _ n next hg).2.2.2
    obtain ⟨t, to, er, ht⟩ : ∃ t to er, takeV s next 32 = (t, to, er) := ⟨_, _, _, rfl⟩
    simp only [ht]
    by_cases he : er = 0
    · subst he
      rw [if_neg (by simp)]
      have hts : t.size ≤ 32 := by
        have := (takeV_size s next 32 (by show (takeV s next 32).2.2 = 0; rw [ht])).1
        rw [show takeV s next (32 : Nat) = (t, to, 0) from ht] at this
        exact this
      have hgx : ∀ i (h : i < s.size), s.data.toList.getD i 0 = s[i] := fun i h => by
        have hl : i < s.data.toList.length := by rw [← size_eq_length]; exact h
        rw [List.getD_eq_getElem?_getD, List.getElem?_eq_getElem hl]; rfl
      rw [Int.toNat_natCast, hgx m (by omega), hgx (m + 1) (by omega)]
      obtain ⟨x, hx⟩ : ∃ x, (s[m]'(by omega)).toNat = x := ⟨_, rfl⟩
      obtain ⟨y, hy⟩ : ∃ y, (s[m + 1]'(by omega)).toNat = y := ⟨_, rfl⟩
      simp only [hx, hy]
      by_cases hn : 1099511627777 < n
      · have hmf : mayV x ((y : Int) + -128) 1099511627777 t = false := by
          cases hq : mayV x ((y : Int) + -128) 1099511627777 t with
          | false => rfl
          | true => have := (mayV_iff _ _ _ _).1 hq; omega
        have hmf2 : mayV x ((y : Int) - 128) n t = false := by
          cases hq : mayV x ((y : Int) - 128) n t with
          | false => rfl
          | true => have := (mayV_iff _ _ _ _).1 hq; omega
        rw [if_neg (by rw [hmf2]; exact Bool.false_ne_true)]
        exact valTake_7 s m x y n next to t w hs hm2 hx hy hg ht hn (by omega) hn2 hts hmf
      · cases hq : mayV x ((y : Int) - 128) n t with
        | false =>
          rw [if_neg Bool.false_ne_true]
          exact valTake_8b s m x y n next to t w hs hm2 hx hy hg ht (by omega) hts (by show _ = _; rw [← Int.sub_eq_add_neg]; exact hq)
        | true =>
          rw [if_pos rfl]
          have hnn := (mayV_iff _ _ _ _).1 hq
          have := valTake_9 s m x y n next to t w hs hm2 hx hy hg ht (by omega) hts (by show _ = _; rw [← Int.sub_eq_add_neg]; exact hq)
          rw [← Int.sub_eq_add_neg] at this
          exact this
    · rw [if_pos he]
      exact valTake_5 s m n next w hs hm2 t to er he hg ht
  · rw [if_pos he]
    exact valTake_4 s m n next w hs hm2 er he hg
end Go.Proofs.Ytcopiimflloooaa
