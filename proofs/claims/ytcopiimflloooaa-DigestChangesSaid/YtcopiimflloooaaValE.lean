/-
Layer 4: a value as bytes, taken by the program.
-/
import Derived.Test.YtcopiimflloooaaValD
import Derived.Test.YtcopiimflloooaaIdentB
import Derived.Laws.Rows
set_option linter.unusedVariables false
set_option linter.unusedSimpArgs false
namespace Go.Proofs.Ytcopiimflloooaa
open Go.RowKit
open Sp
theorem varTake_is (s : ByteArray) (a most : Int) (t : ByteArray) (to er : Int) (w : World) (hs : s.size ≤ 140737488351232) (hm : most ≤ 1048576) (hm0 : -1048576 ≤ most) (h : Hid (takeV s a most = (t, to, er))) :
    Calls Try.prog 101 #[.string s, .int .i64 a, .int .i64 most] w fun e w' => e = .returned (.tuple #[.string t, .int .i64 to, .int .i64 er]) ∧ w = w' := by
  have := varTake_calls s a most w hs hm hm0
  rwa [h.out] at this

set_option maxHeartbeats 2000000 in
set_option maxRecDepth 100000 in
theorem valTake_1 (s : ByteArray) (a : Int) (w : World) (h : a < 0) :
    Calls Try.prog 76 #[.string s, .int .i64 a] w fun e w' => e = .returned (.tuple #[encV zeroV, .int .i64 0, .int .i64 1]) ∧ Below w.heap.size w w' := by
  go_enter Try.func76, Try.ntmps76
  go_wp2
  (try simp only [Exit.inBlock, Exit.then])
  exact bodyPost_ctt rfl w.heap.size _ _ (0, 0) _ rfl (heap_alloc_new w _) Try.underlying32 rfl info_val rfl ⟨rfl, (Below.refl _ _).alloc (Nat.le_refl _) _⟩

set_option maxHeartbeats 2000000 in
set_option maxRecDepth 100000 in
theorem valTake_2 (s : ByteArray) (a : Int) (w : World) (h0 : 0 ≤ a) (h : (s.size : Int) < a) :
    Calls Try.prog 76 #[.string s, .int .i64 a] w fun e w' => e = .returned (.tuple #[encV zeroV, .int .i64 0, .int .i64 1]) ∧ Below w.heap.size w w' := by
  go_enter Try.func76, Try.ntmps76
  go_wp2
  (try simp only [Exit.inBlock, Exit.then])
  exact bodyPost_ctt rfl w.heap.size _ _ (0, 0) _ rfl (heap_alloc_new w _) Try.underlying32 rfl info_val rfl ⟨rfl, (Below.refl _ _).alloc (Nat.le_refl _) _⟩

set_option maxHeartbeats 2000000 in
set_option maxRecDepth 100000 in
theorem valTake_3 (s : ByteArray) (a : Int) (w : World) (hs : s.size ≤ 140737488351232) (h0 : 0 ≤ a) (h1 : a ≤ (s.size : Int)) (h : (s.size : Int) - a < 2) :
    Calls Try.prog 76 #[.string s, .int .i64 a] w fun e w' => e = .returned (.tuple #[encV zeroV, .int .i64 0, .int .i64 2]) ∧ Below w.heap.size w w' := by
  go_enter Try.func76, Try.ntmps76
  go_wp2
  (try simp only [Exit.inBlock, Exit.then])
  exact bodyPost_ctt rfl w.heap.size _ _ (0, 0) _ rfl (heap_alloc_new w _) Try.underlying32 rfl info_val rfl ⟨rfl, (Below.refl _ _).alloc (Nat.le_refl _) _⟩

set_option maxHeartbeats 2000000 in
set_option maxRecDepth 100000 in
theorem valTake_4 (s : ByteArray) (m : Nat) (n : Nat) (next : Int) (w : World) (hs : s.size ≤ 140737488351232) (h : m + 2 ≤ s.size) (er : Int) (he : er ≠ 0) (hg : Hid (getV s ((m : Int) + 2) = (n, next, er))) :
    Calls Try.prog 76 #[.string s, .int .i64 m] w fun e w' => e = .returned (.tuple #[encV zeroV, .int .i64 0, .int .i64 er]) ∧ Below w.heap.size w w' := by
  have hb : (er != 0) = true := by simpa using he
  have HE := Lib.hid he
  clear he
  go_enter Try.func76, Try.ntmps76
  go_wp2_with fail
  refine (varGet_is s _ n next er _ hs hg).mono ?_
  rintro e w1 ⟨rfl, rfl⟩
  go_wp2
  (try simp only [Exit.inBlock, Exit.then])
  exact bodyPost_ctt rfl w.heap.size _ _ (0, 0) _ rfl (heap_alloc_new w _) Try.underlying32 rfl info_val rfl ⟨rfl, (Below.refl _ _).alloc (Nat.le_refl _) _⟩

set_option maxHeartbeats 2000000 in
set_option maxRecDepth 100000 in
theorem valTake_5 (s : ByteArray) (m : Nat) (n : Nat) (next : Int) (w : World) (hs : s.size ≤ 140737488351232) (h : m + 2 ≤ s.size) (t : ByteArray) (to er : Int) (he : er ≠ 0) (hg : Hid (getV s ((m : Int) + 2) = (n, next, 0))) (ht : Hid (takeV s next 32 = (t, to, er))) :
    Calls Try.prog 76 #[.string s, .int .i64 m] w fun e w' => e = .returned (.tuple #[encV zeroV, .int .i64 0, .int .i64 er]) ∧ Below w.heap.size w w' := by
  have hb : (er != 0) = true := by simpa using he
  have HE := Lib.hid he
  clear he
  go_enter Try.func76, Try.ntmps76
  go_wp2_with fail
  refine (varGet_is s _ n next 0 _ hs hg).mono ?_
  rintro e w1 ⟨rfl, rfl⟩
  go_wp2_with fail
  refine (varTake_is s next 32 t to er _ hs (by omega) (by omega) ht).mono ?_
  rintro e w1 ⟨rfl, rfl⟩
  go_wp2
  (try simp only [Exit.inBlock, Exit.then])
  exact bodyPost_ctt rfl w.heap.size _ _ (0, 0) _ rfl (heap_alloc_new w _) Try.underlying32 rfl info_val rfl ⟨rfl, (Below.refl _ _).alloc (Nat.le_refl _) _⟩

set_option maxHeartbeats 2000000 in
set_option maxRecDepth 100000 in
theorem valTake_8 (s : ByteArray) (m : Nat) (x y n : Nat) (next to : Int) (t : ByteArray) (w : World) (hs : s.size ≤ 140737488351232) (h : m + 2 ≤ s.size) (hx : (s[m]'(by omega)).toNat = x) (hy : (s[m + 1]'(by omega)).toNat = y)
    (hg : Hid (getV s ((m : Int) + 2) = (n, next, 0))) (ht : Hid (takeV s next 32 = (t, to, 0))) (hn : n ≤ 1099511627776) (hts : t.size ≤ 32) (hm : Hid (mayV x ((y : Int) + -128) n t = false)) :
    Calls Try.prog 76 #[.string s, .int .i64 m] w fun e w' => e = .returned (.tuple #[encV zeroV, .int .i64 0, .int .i64 3]) ∧ Below w.heap.size w w' := by
  have hx0 : x < 256 := by rw [← hx]; exact UInt8.toNat_lt _
  have hy0 : y < 256 := by rw [← hy]; exact UInt8.toNat_lt _
  go_enter Try.func76, Try.ntmps76
  go_wp2_with fail
  refine (varGet_is s _ n next 0 _ hs hg).mono ?_
  rintro e w1 ⟨rfl, rfl⟩
  go_wp2_with fail
  refine (varTake_is s next 32 t to 0 _ hs (by omega) (by omega) ht).mono ?_
  rintro e w1 ⟨rfl, rfl⟩
  go_wp2_with fail
  go_region
  go_wp2_with fail
  refine (may_is _ _ _ t false _ (by omega) hm).mono ?_
  rintro e w2 ⟨rfl, b2⟩
  have hz : (w.alloc (.cells #[.int .i64 0, .int .i64 0, .int .i64 0, .string ⟨#[]⟩] 32)).heap.size = w.heap.size + 1 := Array.size_push ..
  have hnew : S4 (w.heap.size + 1) x ((y : Int) + -128) n t w2 := by
    refine S4.below (W := ((w.alloc (.cells #[.int .i64 0, .int .i64 0, .int .i64 0, .string ⟨#[]⟩] 32)).alloc (.cells #[.int .i64 x, .int .i64 ((y : Int) + -128), .int .i64 n, .string t] 32)).drew) (S4.drew ?_) b2
    rw [← hz]
    exact ⟨cell_new _ _ _ _ _ rfl, cell_new _ _ _ _ _ rfl, cell_new _ _ _ _ _ rfl, cell_new _ _ _ _ _ rfl⟩
  have hold : w2.heap[w.heap.size]? = some (.cells #[.int .i64 0, .int .i64 0, .int .i64 0, .string ⟨#[]⟩] 32 (0, 0)) := by
    refine (b2.block w.heap.size (Nat.lt_of_lt_of_le (by rw [hz]; omega) (Nat.le_of_lt (Nat.lt_of_lt_of_eq (Nat.lt_succ_self _) (Array.size_push ..).symm)))).trans ?_
    refine (Below.heap_alloc _ _ _ (by rw [hz]; omega)).trans ?_
    exact heap_alloc_new w _
  obtain ⟨c0, c1, c2, c3⟩ := hnew
  have o0 : w2.cell? ⟨w.heap.size, 0, none⟩ = some (.int .i64 0) := by simp [World.cell?, hold]
  have o1 : w2.cell? ⟨w.heap.size, 1, none⟩ = some (.int .i64 0) := by simp [World.cell?, hold]
  have o2 : w2.cell? ⟨w.heap.size, 2, none⟩ = some (.int .i64 0) := by simp [World.cell?, hold]
  have o3 : w2.cell? ⟨w.heap.size, 3, none⟩ = some (.string ⟨#[]⟩) := by simp [World.cell?, hold]
  have f0 : w2.frozen? ⟨w.heap.size, 0, none⟩ = false := by simp [World.frozen?, hold]
  have f1 : w2.frozen? ⟨w.heap.size, 1, none⟩ = false := by simp [World.frozen?, hold]
  have f2 : w2.frozen? ⟨w.heap.size, 2, none⟩ = false := by simp [World.frozen?, hold]
  have f3 : w2.frozen? ⟨w.heap.size, 3, none⟩ = false := by simp [World.frozen?, hold]
  have hB : Below w.heap.size w w2 := by
    have e1 : Below w.heap.size w ((w.alloc (.cells #[.int .i64 0, .int .i64 0, .int .i64 0, .string ⟨#[]⟩] 32)).alloc (.cells #[.int .i64 x, .int .i64 ((y : Int) + -128), .int .i64 n, .string t] 32)).drew := Below.drew (below_alloc0 (below_alloc0 (Below.refl _ _) _) _)
    exact below_call e1 b2
  go_wp2
  (try simp only [Exit.inBlock, Exit.then])
  refine bodyPost_ctt rfl w.heap.size 32 #[.int .i64 0, .int .i64 0, .int .i64 0, .string ⟨#[]⟩] (0, 0) _ rfl ?_ Try.underlying32 rfl info_val rfl ⟨rfl, ?_⟩
  · simp [World.setCell, Array.getElem?_modify, hold]
  · exact (((hB.setCell (p := ⟨w.heap.size, 0, none⟩) (Nat.le_refl _) _).setCell (p := ⟨w.heap.size, 1, none⟩) (Nat.le_refl _) _).setCell (p := ⟨w.heap.size, 2, none⟩) (Nat.le_refl _) _).setCell (p := ⟨w.heap.size, 3, none⟩) (Nat.le_refl _) _
set_option maxHeartbeats 2000000 in
set_option maxRecDepth 100000 in
theorem valTake_9 (s : ByteArray) (m : Nat) (x y n : Nat) (next to : Int) (t : ByteArray) (w : World) (hs : s.size ≤ 140737488351232) (h : m + 2 ≤ s.size) (hx : (s[m]'(by omega)).toNat = x) (hy : (s[m + 1]'(by omega)).toNat = y)
    (hg : Hid (getV s ((m : Int) + 2) = (n, next, 0))) (ht : Hid (takeV s next 32 = (t, to, 0))) (hn : n ≤ 1099511627776) (hts : t.size ≤ 32) (hm : Hid (mayV x ((y : Int) + -128) n t = true)) :
    Calls Try.prog 76 #[.string s, .int .i64 m] w fun e w' => e = .returned (.tuple #[encV ((x : Int), (y : Int) + -128, (n : Int), t), .int .i64 to, .int .i64 0]) ∧ Below w.heap.size w w' := by
  have hx0 : x < 256 := by rw [← hx]; exact UInt8.toNat_lt _
  have hy0 : y < 256 := by rw [← hy]; exact UInt8.toNat_lt _
  go_enter Try.func76, Try.ntmps76
  go_wp2_with fail
  refine (varGet_is s _ n next 0 _ hs hg).mono ?_
  rintro e w1 ⟨rfl, rfl⟩
  go_wp2_with fail
  refine (varTake_is s next 32 t to 0 _ hs (by omega) (by omega) ht).mono ?_
  rintro e w1 ⟨rfl, rfl⟩
  go_wp2_with fail
  go_region
  go_wp2_with fail
  refine (may_is _ _ _ t true _ (by omega) hm).mono ?_
  rintro e w2 ⟨rfl, b2⟩
  have hz : (w.alloc (.cells #[.int .i64 0, .int .i64 0, .int .i64 0, .string ⟨#[]⟩] 32)).heap.size = w.heap.size + 1 := Array.size_push ..
  have hnew : S4 (w.heap.size + 1) x ((y : Int) + -128) n t w2 := by
    refine S4.below (W := ((w.alloc (.cells #[.int .i64 0, .int .i64 0, .int .i64 0, .string ⟨#[]⟩] 32)).alloc (.cells #[.int .i64 x, .int .i64 ((y : Int) + -128), .int .i64 n, .string t] 32)).drew) (S4.drew ?_) b2
    rw [← hz]
    exact ⟨cell_new _ _ _ _ _ rfl, cell_new _ _ _ _ _ rfl, cell_new _ _ _ _ _ rfl, cell_new _ _ _ _ _ rfl⟩
  have hold : w2.heap[w.heap.size]? = some (.cells #[.int .i64 0, .int .i64 0, .int .i64 0, .string ⟨#[]⟩] 32 (0, 0)) := by
    refine (b2.block w.heap.size (Nat.lt_of_lt_of_le (by rw [hz]; omega) (Nat.le_of_lt (Nat.lt_of_lt_of_eq (Nat.lt_succ_self _) (Array.size_push ..).symm)))).trans ?_
    refine (Below.heap_alloc _ _ _ (by rw [hz]; omega)).trans ?_
    exact heap_alloc_new w _
  obtain ⟨c0, c1, c2, c3⟩ := hnew
  have o0 : w2.cell? ⟨w.heap.size, 0, none⟩ = some (.int .i64 0) := by simp [World.cell?, hold]
  have o1 : w2.cell? ⟨w.heap.size, 1, none⟩ = some (.int .i64 0) := by simp [World.cell?, hold]
  have o2 : w2.cell? ⟨w.heap.size, 2, none⟩ = some (.int .i64 0) := by simp [World.cell?, hold]
  have o3 : w2.cell? ⟨w.heap.size, 3, none⟩ = some (.string ⟨#[]⟩) := by simp [World.cell?, hold]
  have f0 : w2.frozen? ⟨w.heap.size, 0, none⟩ = false := by simp [World.frozen?, hold]
  have f1 : w2.frozen? ⟨w.heap.size, 1, none⟩ = false := by simp [World.frozen?, hold]
  have f2 : w2.frozen? ⟨w.heap.size, 2, none⟩ = false := by simp [World.frozen?, hold]
  have f3 : w2.frozen? ⟨w.heap.size, 3, none⟩ = false := by simp [World.frozen?, hold]
  have hB : Below w.heap.size w w2 := by
    have e1 : Below w.heap.size w ((w.alloc (.cells #[.int .i64 0, .int .i64 0, .int .i64 0, .string ⟨#[]⟩] 32)).alloc (.cells #[.int .i64 x, .int .i64 ((y : Int) + -128), .int .i64 n, .string t] 32)).drew := Below.drew (below_alloc0 (below_alloc0 (Below.refl _ _) _) _)
    exact below_call e1 b2
  go_wp2
  (try simp only [Exit.inBlock, Exit.then])
  refine bodyPost_ctt rfl w.heap.size 32 #[.int .i64 x, .int .i64 ((y : Int) + -128), .int .i64 n, .string t] (0, 0) _ rfl ?_ Try.underlying32 rfl info_val rfl ⟨rfl, ?_⟩
  · simp [World.setCell, Array.getElem?_modify, hold]
  · exact (((hB.setCell (p := ⟨w.heap.size, 0, none⟩) (Nat.le_refl _) _).setCell (p := ⟨w.heap.size, 1, none⟩) (Nat.le_refl _) _).setCell (p := ⟨w.heap.size, 2, none⟩) (Nat.le_refl _) _).setCell (p := ⟨w.heap.size, 3, none⟩) (Nat.le_refl _) _
end Go.Proofs.Ytcopiimflloooaa
