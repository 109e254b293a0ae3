/-
Contracts: Act of two items, the document's.
-/
import Derived.Test.YtpmafghknafhaaaRosM
set_option linter.unusedVariables false
set_option linter.unusedSimpArgs false
namespace Go.Proofs.Ytpmafghknafhaaa
open Go.RowKit
open Sp
theorem hset_ne {w : World} {g k i : Nat} {v : Value} {o : Option Obj} (hk : k ≠ g) (h : w.heap[k]? = o) : (w.setCell ⟨g, i, none⟩ v).heap[k]? = o := by
  simp [World.setCell, Array.getElem?_modify, Ne.symm hk, h]
theorem hset5 {w : World} {g : Nat} {c d e f x : Bool} (h : w.heap[g]? = some (.cells #[.bool c, .bool d, .bool e, .bool f, .bool x] 26)) (i : Nat) (v : Bool) : (w.setCell ⟨g, i, none⟩ (.bool v)).heap[g]? = some (.cells (#[.bool c, .bool d, .bool e, .bool f, .bool x].setIfInBounds i (.bool v)) 26) := by
  simp [World.setCell, Array.getElem?_modify, h]
set_option maxHeartbeats 16000000 in
set_option maxRecDepth 100000 in
theorem refactU (a b c d e a' b' c' d' e' : Bool) (k : Int) (w : World) (hf : Hid (fitI ⟨a, b, c, d, e⟩ ⟨a', b', c', d', e'⟩ = false)) :
    Calls Try.prog 51 #[.agg #[.bool a, .bool b, .bool c, .bool d, .bool e], .agg #[.bool a', .bool b', .bool c', .bool d', .bool e'], .int .i64 k] w fun x w' => x = .returned (.tuple #[.agg #[.bool a, .bool b, .bool c, .bool d, .bool e], .agg #[.bool a', .bool b', .bool c', .bool d', .bool e'], .int .i64 1]) ∧ Below w.heap.size w w' := by
  have hx0 := heap_alloc_new w (.cells #[.bool a, .bool b, .bool c, .bool d, .bool e] 26)
  have hx1 := heap_alloc_new (w.alloc (.cells #[.bool a, .bool b, .bool c, .bool d, .bool e] 26)) (.cells #[.bool a', .bool b', .bool c', .bool d', .bool e'] 26)
  replace hx0 := halloc hx0 (.cells #[.bool a', .bool b', .bool c', .bool d', .bool e'] 26)
  have hx2 := heap_alloc_new ((w.alloc (.cells #[.bool a, .bool b, .bool c, .bool d, .bool e] 26)).alloc (.cells #[.bool a', .bool b', .bool c', .bool d', .bool e'] 26)) (.cells #[.bool false, .bool false, .bool false, .bool false, .bool false] 26)
  replace hx0 := halloc hx0 (.cells #[.bool false, .bool false, .bool false, .bool false, .bool false] 26)
  replace hx1 := halloc hx1 (.cells #[.bool false, .bool false, .bool false, .bool false, .bool false] 26)
  have hx3 := heap_alloc_new (((w.alloc (.cells #[.bool a, .bool b, .bool c, .bool d, .bool e] 26)).alloc (.cells #[.bool a', .bool b', .bool c', .bool d', .bool e'] 26)).alloc (.cells #[.bool false, .bool false, .bool false, .bool false, .bool false] 26)) (.cells #[.bool false, .bool false, .bool false, .bool false, .bool false] 26)
  replace hx0 := halloc hx0 (.cells #[.bool false, .bool false, .bool false, .bool false, .bool false] 26)
  replace hx1 := halloc hx1 (.cells #[.bool false, .bool false, .bool false, .bool false, .bool false] 26)
  replace hx2 := halloc hx2 (.cells #[.bool false, .bool false, .bool false, .bool false, .bool false] 26)
  simp only [size_alloc] at hx0 hx1 hx2 hx3
  have DD : Below w.heap.size w ((((w.alloc (.cells #[.bool a, .bool b, .bool c, .bool d, .bool e] 26)).alloc (.cells #[.bool a', .bool b', .bool c', .bool d', .bool e'] 26)).alloc (.cells #[.bool false, .bool false, .bool false, .bool false, .bool false] 26)).alloc (.cells #[.bool false, .bool false, .bool false, .bool false, .bool false] 26)) := below_alloc0 (below_alloc0 (below_alloc0 (below_box _) _) _) _
  go_enter Try.func51, Try.ntmps51
  go_wp2_with fail
  with_reducible refine (re_ (refMayI_calls a b c d e a' b' c' d' e' _) (ret_bool hf.out)).mono ?_
  rintro x w1 ⟨rfl, b1⟩
  have hy0 := hcall hx0 b1
  have hy1 := hcall hx1 b1
  have hy2 := hcall hx2 b1
  have hy3 := hcall hx3 b1
  have D := below_call DD b1
  have hz0 : w.heap.size + 1 + 1 + 1 + 1 ≤ w1.heap.size := by
    have := b1.size
    simp only [size_alloc] at this
    exact this
  clear b1 DD hx0 hx1 hx2 hx3
  obtain ⟨⟨q0, q1, q2, q3, q4⟩, ⟨qf0, qf1, qf2, qf3, qf4⟩, qz⟩ := iopen5 hy2
  obtain ⟨⟨r0, r1, r2, r3, r4⟩, ⟨rf0, rf1, rf2, rf3, rf4⟩, rz⟩ := iopen5 hy3
  obtain ⟨⟨p0, p1, p2, p3, p4⟩, ⟨pf0, pf1, pf2, pf3, pf4⟩, pz⟩ := iopen5 hy0
  obtain ⟨⟨s0, s1, s2, s3, s4⟩, ⟨sf0, sf1, sf2, sf3, sf4⟩, sz⟩ := iopen5 hy1
  go_wp2_with fail
  go_region
  all_goals (try go_wp2)
  all_goals (try simp only [Exit.inBlock, Exit.then])
  (refine bodyPost_cct rfl (w.heap.size + 1 + 1) (w.heap.size + 1 + 1 + 1) 26 26 #[.bool a, .bool b, .bool c, .bool d, .bool e] #[.bool a', .bool b', .bool c', .bool d', .bool e'] (0, 0) (0, 0) _ rfl rfl ?_ ?_ Try.underlying26 rfl info_it5 rfl rfl ⟨?_, ?_⟩)
  · refine heap_drew' ?_
    exact (put5_ne (w := put5 w1 (w.heap.size + 1 + 1) a b c d e) (g := w.heap.size + 1 + 1 + 1) (k := w.heap.size + 1 + 1) a' b' c' d' e' (by omega)).trans (put5_at a b c d e hy2)
  · refine heap_drew' ?_
    exact put5_at (w := put5 w1 (w.heap.size + 1 + 1) a b c d e) (g := w.heap.size + 1 + 1 + 1) a' b' c' d' e' ((put5_ne (w := w1) (g := w.heap.size + 1 + 1) (k := w.heap.size + 1 + 1 + 1) a b c d e (by omega)).trans hy3)
  · rfl
  · exact (put5_below (put5_below D (w.heap.size + 1 + 1) (by omega) a b c d e) (w.heap.size + 1 + 1 + 1) (by omega) a' b' c' d' e').drew
set_option maxHeartbeats 16000000 in
set_option maxRecDepth 100000 in
theorem refactL (a b c d e a' b' c' d' e' : Bool) (k : Int) (hk : k < 1) (w : World) (hf : Hid (fitI ⟨a, b, c, d, e⟩ ⟨a', b', c', d', e'⟩ = true)) :
    Calls Try.prog 51 #[.agg #[.bool a, .bool b, .bool c, .bool d, .bool e], .agg #[.bool a', .bool b', .bool c', .bool d', .bool e'], .int .i64 k] w fun x w' => x = .returned (.tuple #[.agg #[.bool a, .bool b, .bool c, .bool d, .bool e], .agg #[.bool a', .bool b', .bool c', .bool d', .bool e'], .int .i64 1]) ∧ Below w.heap.size w w' := by
  have hx0 := heap_alloc_new w (.cells #[.bool a, .bool b, .bool c, .bool d, .bool e] 26)
  have hx1 := heap_alloc_new (w.alloc (.cells #[.bool a, .bool b, .bool c, .bool d, .bool e] 26)) (.cells #[.bool a', .bool b', .bool c', .bool d', .bool e'] 26)
  replace hx0 := halloc hx0 (.cells #[.bool a', .bool b', .bool c', .bool d', .bool e'] 26)
  have hx2 := heap_alloc_new ((w.alloc (.cells #[.bool a, .bool b, .bool c, .bool d, .bool e] 26)).alloc (.cells #[.bool a', .bool b', .bool c', .bool d', .bool e'] 26)) (.cells #[.bool false, .bool false, .bool false, .bool false, .bool false] 26)
  replace hx0 := halloc hx0 (.cells #[.bool false, .bool false, .bool false, .bool false, .bool false] 26)
  replace hx1 := halloc hx1 (.cells #[.bool false, .bool false, .bool false, .bool false, .bool false] 26)
  have hx3 := heap_alloc_new (((w.alloc (.cells #[.bool a, .bool b, .bool c, .bool d, .bool e] 26)).alloc (.cells #[.bool a', .bool b', .bool c', .bool d', .bool e'] 26)).alloc (.cells #[.bool false, .bool false, .bool false, .bool false, .bool false] 26)) (.cells #[.bool false, .bool false, .bool false, .bool false, .bool false] 26)
  replace hx0 := halloc hx0 (.cells #[.bool false, .bool false, .bool false, .bool false, .bool false] 26)
  replace hx1 := halloc hx1 (.cells #[.bool false, .bool false, .bool false, .bool false, .bool false] 26)
  replace hx2 := halloc hx2 (.cells #[.bool false, .bool false, .bool false, .bool false, .bool false] 26)
  simp only [size_alloc] at hx0 hx1 hx2 hx3
  have DD : Below w.heap.size w ((((w.alloc (.cells #[.bool a, .bool b, .bool c, .bool d, .bool e] 26)).alloc (.cells #[.bool a', .bool b', .bool c', .bool d', .bool e'] 26)).alloc (.cells #[.bool false, .bool false, .bool false, .bool false, .bool false] 26)).alloc (.cells #[.bool false, .bool false, .bool false, .bool false, .bool false] 26)) := below_alloc0 (below_alloc0 (below_alloc0 (below_box _) _) _) _
  go_enter Try.func51, Try.ntmps51
  go_wp2_with fail
  with_reducible refine (re_ (refMayI_calls a b c d e a' b' c' d' e' _) (ret_bool hf.out)).mono ?_
  rintro x w1 ⟨rfl, b1⟩
  have hy0 := hcall hx0 b1
  have hy1 := hcall hx1 b1
  have hy2 := hcall hx2 b1
  have hy3 := hcall hx3 b1
  have D := below_call DD b1
  have hz0 : w.heap.size + 1 + 1 + 1 + 1 ≤ w1.heap.size := by
    have := b1.size
    simp only [size_alloc] at this
    exact this
  clear b1 DD hx0 hx1 hx2 hx3
  obtain ⟨⟨q0, q1, q2, q3, q4⟩, ⟨qf0, qf1, qf2, qf3, qf4⟩, qz⟩ := iopen5 hy2
  obtain ⟨⟨r0, r1, r2, r3, r4⟩, ⟨rf0, rf1, rf2, rf3, rf4⟩, rz⟩ := iopen5 hy3
  obtain ⟨⟨p0, p1, p2, p3, p4⟩, ⟨pf0, pf1, pf2, pf3, pf4⟩, pz⟩ := iopen5 hy0
  obtain ⟨⟨s0, s1, s2, s3, s4⟩, ⟨sf0, sf1, sf2, sf3, sf4⟩, sz⟩ := iopen5 hy1
  go_wp2_with fail
  go_region
  all_goals (try go_wp2)
  all_goals (try simp only [Exit.inBlock, Exit.then])
  (refine bodyPost_cct rfl (w.heap.size + 1 + 1) (w.heap.size + 1 + 1 + 1) 26 26 #[.bool a, .bool b, .bool c, .bool d, .bool e] #[.bool a', .bool b', .bool c', .bool d', .bool e'] (0, 0) (0, 0) _ rfl rfl ?_ ?_ Try.underlying26 rfl info_it5 rfl rfl ⟨?_, ?_⟩)
  · refine heap_drew' ?_
    exact (put5_ne (w := put5 w1 (w.heap.size + 1 + 1) a b c d e) (g := w.heap.size + 1 + 1 + 1) (k := w.heap.size + 1 + 1) a' b' c' d' e' (by omega)).trans (put5_at a b c d e hy2)
  · refine heap_drew' ?_
    exact put5_at (w := put5 w1 (w.heap.size + 1 + 1) a b c d e) (g := w.heap.size + 1 + 1 + 1) a' b' c' d' e' ((put5_ne (w := w1) (g := w.heap.size + 1 + 1) (k := w.heap.size + 1 + 1 + 1) a b c d e (by omega)).trans hy3)
  · rfl
  · exact (put5_below (put5_below D (w.heap.size + 1 + 1) (by omega) a b c d e) (w.heap.size + 1 + 1 + 1) (by omega) a' b' c' d' e').drew
set_option maxHeartbeats 16000000 in
set_option maxRecDepth 100000 in
theorem refactG (a b c d e a' b' c' d' e' : Bool) (k : Int) (hk : 6 < k) (w : World) (hf : Hid (fitI ⟨a, b, c, d, e⟩ ⟨a', b', c', d', e'⟩ = true)) :
    Calls Try.prog 51 #[.agg #[.bool a, .bool b, .bool c, .bool d, .bool e], .agg #[.bool a', .bool b', .bool c', .bool d', .bool e'], .int .i64 k] w fun x w' => x = .returned (.tuple #[.agg #[.bool a, .bool b, .bool c, .bool d, .bool e], .agg #[.bool a', .bool b', .bool c', .bool d', .bool e'], .int .i64 1]) ∧ Below w.heap.size w w' := by
  have hx0 := heap_alloc_new w (.cells #[.bool a, .bool b, .bool c, .bool d, .bool e] 26)
  have hx1 := heap_alloc_new (w.alloc (.cells #[.bool a, .bool b, .bool c, .bool d, .bool e] 26)) (.cells #[.bool a', .bool b', .bool c', .bool d', .bool e'] 26)
  replace hx0 := halloc hx0 (.cells #[.bool a', .bool b', .bool c', .bool d', .bool e'] 26)
  have hx2 := heap_alloc_new ((w.alloc (.cells #[.bool a, .bool b, .bool c, .bool d, .bool e] 26)).alloc (.cells #[.bool a', .bool b', .bool c', .bool d', .bool e'] 26)) (.cells #[.bool false, .bool false, .bool false, .bool false, .bool false] 26)
  replace hx0 := halloc hx0 (.cells #[.bool false, .bool false, .bool false, .bool false, .bool false] 26)
  replace hx1 := halloc hx1 (.cells #[.bool false, .bool false, .bool false, .bool false, .bool false] 26)
  have hx3 := heap_alloc_new (((w.alloc (.cells #[.bool a, .bool b, .bool c, .bool d, .bool e] 26)).alloc (.cells #[.bool a', .bool b', .bool c', .bool d', .bool e'] 26)).alloc (.cells #[.bool false, .bool false, .bool false, .bool false, .bool false] 26)) (.cells #[.bool false, .bool false, .bool false, .bool false, .bool false] 26)
  replace hx0 := halloc hx0 (.cells #[.bool false, .bool false, .bool false, .bool false, .bool false] 26)
  replace hx1 := halloc hx1 (.cells #[.bool false, .bool false, .bool false, .bool false, .bool false] 26)
  replace hx2 := halloc hx2 (.cells #[.bool false, .bool false, .bool false, .bool false, .bool false] 26)
  simp only [size_alloc] at hx0 hx1 hx2 hx3
  have DD : Below w.heap.size w ((((w.alloc (.cells #[.bool a, .bool b, .bool c, .bool d, .bool e] 26)).alloc (.cells #[.bool a', .bool b', .bool c', .bool d', .bool e'] 26)).alloc (.cells #[.bool false, .bool false, .bool false, .bool false, .bool false] 26)).alloc (.cells #[.bool false, .bool false, .bool false, .bool false, .bool false] 26)) := below_alloc0 (below_alloc0 (below_alloc0 (below_box _) _) _) _
  go_enter Try.func51, Try.ntmps51
  go_wp2_with fail
  with_reducible refine (re_ (refMayI_calls a b c d e a' b' c' d' e' _) (ret_bool hf.out)).mono ?_
  rintro x w1 ⟨rfl, b1⟩
  have hy0 := hcall hx0 b1
  have hy1 := hcall hx1 b1
  have hy2 := hcall hx2 b1
  have hy3 := hcall hx3 b1
  have D := below_call DD b1
  have hz0 : w.heap.size + 1 + 1 + 1 + 1 ≤ w1.heap.size := by
    have := b1.size
    simp only [size_alloc] at this
    exact this
  clear b1 DD hx0 hx1 hx2 hx3
  obtain ⟨⟨q0, q1, q2, q3, q4⟩, ⟨qf0, qf1, qf2, qf3, qf4⟩, qz⟩ := iopen5 hy2
  obtain ⟨⟨r0, r1, r2, r3, r4⟩, ⟨rf0, rf1, rf2, rf3, rf4⟩, rz⟩ := iopen5 hy3
  obtain ⟨⟨p0, p1, p2, p3, p4⟩, ⟨pf0, pf1, pf2, pf3, pf4⟩, pz⟩ := iopen5 hy0
  obtain ⟨⟨s0, s1, s2, s3, s4⟩, ⟨sf0, sf1, sf2, sf3, sf4⟩, sz⟩ := iopen5 hy1
  go_wp2_with fail
  go_region
  all_goals (try go_wp2)
  all_goals (try simp only [Exit.inBlock, Exit.then])
  (refine bodyPost_cct rfl (w.heap.size + 1 + 1) (w.heap.size + 1 + 1 + 1) 26 26 #[.bool a, .bool b, .bool c, .bool d, .bool e] #[.bool a', .bool b', .bool c', .bool d', .bool e'] (0, 0) (0, 0) _ rfl rfl ?_ ?_ Try.underlying26 rfl info_it5 rfl rfl ⟨?_, ?_⟩)
  · refine heap_drew' ?_
    exact (put5_ne (w := put5 w1 (w.heap.size + 1 + 1) a b c d e) (g := w.heap.size + 1 + 1 + 1) (k := w.heap.size + 1 + 1) a' b' c' d' e' (by omega)).trans (put5_at a b c d e hy2)
  · refine heap_drew' ?_
    exact put5_at (w := put5 w1 (w.heap.size + 1 + 1) a b c d e) (g := w.heap.size + 1 + 1 + 1) a' b' c' d' e' ((put5_ne (w := w1) (g := w.heap.size + 1 + 1) (k := w.heap.size + 1 + 1 + 1) a b c d e (by omega)).trans hy3)
  · rfl
  · exact (put5_below (put5_below D (w.heap.size + 1 + 1) (by omega) a b c d e) (w.heap.size + 1 + 1 + 1) (by omega) a' b' c' d' e').drew
set_option maxHeartbeats 16000000 in
set_option maxRecDepth 100000 in
theorem refact1_0 (a b c d a' b' c' d' e' : Bool) (w : World) (hf : Hid (fitI ⟨a, b, c, d, true⟩ ⟨a', b', c', d', e'⟩ = true)) :
    Calls Try.prog 51 #[.agg #[.bool a, .bool b, .bool c, .bool d, .bool true], .agg #[.bool a', .bool b', .bool c', .bool d', .bool e'], .int .i64 1] w fun x w' => x = .returned (.tuple #[.agg #[.bool a, .bool b, .bool c, .bool d, .bool true], .agg #[.bool a', .bool b', .bool c', .bool d', .bool e'], .int .i64 8]) ∧ Below w.heap.size w w' := by
  have hx0 := heap_alloc_new w (.cells #[.bool a, .bool b, .bool c, .bool d, .bool true] 26)
  have hx1 := heap_alloc_new (w.alloc (.cells #[.bool a, .bool b, .bool c, .bool d, .bool true] 26)) (.cells #[.bool a', .bool b', .bool c', .bool d', .bool e'] 26)
  replace hx0 := halloc hx0 (.cells #[.bool a', .bool b', .bool c', .bool d', .bool e'] 26)
  have hx2 := heap_alloc_new ((w.alloc (.cells #[.bool a, .bool b, .bool c, .bool d, .bool true] 26)).alloc (.cells #[.bool a', .bool b', .bool c', .bool d', .bool e'] 26)) (.cells #[.bool false, .bool false, .bool false, .bool false, .bool false] 26)
  replace hx0 := halloc hx0 (.cells #[.bool false, .bool false, .bool false, .bool false, .bool false] 26)
  replace hx1 := halloc hx1 (.cells #[.bool false, .bool false, .bool false, .bool false, .bool false] 26)
  have hx3 := heap_alloc_new (((w.alloc (.cells #[.bool a, .bool b, .bool c, .bool d, .bool true] 26)).alloc (.cells #[.bool a', .bool b', .bool c', .bool d', .bool e'] 26)).alloc (.cells #[.bool false, .bool false, .bool false, .bool false, .bool false] 26)) (.cells #[.bool false, .bool false, .bool false, .bool false, .bool false] 26)
  replace hx0 := halloc hx0 (.cells #[.bool false, .bool false, .bool false, .bool false, .bool false] 26)
  replace hx1 := halloc hx1 (.cells #[.bool false, .bool false, .bool false, .bool false, .bool false] 26)
  replace hx2 := halloc hx2 (.cells #[.bool false, .bool false, .bool false, .bool false, .bool false] 26)
  simp only [size_alloc] at hx0 hx1 hx2 hx3
  have DD : Below w.heap.size w ((((w.alloc (.cells #[.bool a, .bool b, .bool c, .bool d, .bool true] 26)).alloc (.cells #[.bool a', .bool b', .bool c', .bool d', .bool e'] 26)).alloc (.cells #[.bool false, .bool false, .bool false, .bool false, .bool false] 26)).alloc (.cells #[.bool false, .bool false, .bool false, .bool false, .bool false] 26)) := below_alloc0 (below_alloc0 (below_alloc0 (below_box _) _) _) _
  go_enter Try.func51, Try.ntmps51
  go_wp2_with fail
  with_reducible refine (re_ (refMayI_calls a b c d true a' b' c' d' e' _) (ret_bool hf.out)).mono ?_
  rintro x w1 ⟨rfl, b1⟩
  have hy0 := hcall hx0 b1
  have hy1 := hcall hx1 b1
  have hy2 := hcall hx2 b1
  have hy3 := hcall hx3 b1
  have D := below_call DD b1
  have hz0 : w.heap.size + 1 + 1 + 1 + 1 ≤ w1.heap.size := by
    have := b1.size
    simp only [size_alloc] at this
    exact this
  clear b1 DD hx0 hx1 hx2 hx3
  obtain ⟨⟨p0, p1, p2, p3, p4⟩, ⟨pf0, pf1, pf2, pf3, pf4⟩, pz⟩ := iopen5 hy0
  have n1 : (w1.alloc (.cells #[.bool a, .bool b, .bool c, .bool d, .bool true] 26)).heap[w1.heap.size]? = some (.cells #[.bool a, .bool b, .bool c, .bool d, .bool true] 26) := heap_alloc_new _ _
  have s1 : (w1.alloc (.cells #[.bool a, .bool b, .bool c, .bool d, .bool true] 26)).heap[w.heap.size + 1]? = some (.cells #[.bool a', .bool b', .bool c', .bool d', .bool e'] 26) := halloc hy1 (.cells #[.bool a, .bool b, .bool c, .bool d, .bool true] 26)
  obtain ⟨⟨s0, s1, s2, s3, s4⟩, ⟨sf0, sf1, sf2, sf3, sf4⟩, sz⟩ := iopen5 s1
  have m2 : ((w1.alloc (.cells #[.bool a, .bool b, .bool c, .bool d, .bool true] 26)).alloc (.cells #[.bool a', .bool b', .bool c', .bool d', .bool e'] 26)).heap[w1.heap.size + 1]? = some (.cells #[.bool a', .bool b', .bool c', .bool d', .bool e'] 26) := by
    have := heap_alloc_new (w1.alloc (.cells #[.bool a, .bool b, .bool c, .bool d, .bool true] 26)) (.cells #[.bool a', .bool b', .bool c', .bool d', .bool e'] 26)
    simpa only [size_alloc] using this
  have p2 : ((w1.alloc (.cells #[.bool a, .bool b, .bool c, .bool d, .bool true] 26)).alloc (.cells #[.bool a', .bool b', .bool c', .bool d', .bool e'] 26)).heap[w.heap.size]? = some (.cells #[.bool a, .bool b, .bool c, .bool d, .bool true] 26) := halloc (halloc hy0 (.cells #[.bool a, .bool b, .bool c, .bool d, .bool true] 26)) (.cells #[.bool a', .bool b', .bool c', .bool d', .bool e'] 26)
  have s2 : ((w1.alloc (.cells #[.bool a, .bool b, .bool c, .bool d, .bool true] 26)).alloc (.cells #[.bool a', .bool b', .bool c', .bool d', .bool e'] 26)).heap[w.heap.size + 1]? = some (.cells #[.bool a', .bool b', .bool c', .bool d', .bool e'] 26) := halloc (halloc hy1 (.cells #[.bool a, .bool b, .bool c, .bool d, .bool true] 26)) (.cells #[.bool a', .bool b', .bool c', .bool d', .bool e'] 26)
  have q2 : ((w1.alloc (.cells #[.bool a, .bool b, .bool c, .bool d, .bool true] 26)).alloc (.cells #[.bool a', .bool b', .bool c', .bool d', .bool e'] 26)).heap[w.heap.size + 1 + 1]? = some (.cells #[.bool false, .bool false, .bool false, .bool false, .bool false] 26) := halloc (halloc hy2 (.cells #[.bool a, .bool b, .bool c, .bool d, .bool true] 26)) (.cells #[.bool a', .bool b', .bool c', .bool d', .bool e'] 26)
  have r2 : ((w1.alloc (.cells #[.bool a, .bool b, .bool c, .bool d, .bool true] 26)).alloc (.cells #[.bool a', .bool b', .bool c', .bool d', .bool e'] 26)).heap[w.heap.size + 1 + 1 + 1]? = some (.cells #[.bool false, .bool false, .bool false, .bool false, .bool false] 26) := halloc (halloc hy3 (.cells #[.bool a, .bool b, .bool c, .bool d, .bool true] 26)) (.cells #[.bool a', .bool b', .bool c', .bool d', .bool e'] 26)
  have n2 : ((w1.alloc (.cells #[.bool a, .bool b, .bool c, .bool d, .bool true] 26)).alloc (.cells #[.bool a', .bool b', .bool c', .bool d', .bool e'] 26)).heap[w1.heap.size]? = some (.cells #[.bool a, .bool b, .bool c, .bool d, .bool true] 26) := halloc n1 (.cells #[.bool a', .bool b', .bool c', .bool d', .bool e'] 26)
  have D2 : Below w.heap.size w ((w1.alloc (.cells #[.bool a, .bool b, .bool c, .bool d, .bool true] 26)).alloc (.cells #[.bool a', .bool b', .bool c', .bool d', .bool e'] 26)) := below_alloc0 (below_alloc0 D _) _
  obtain ⟨⟨pb0, pb1, pb2, pb3, pb4⟩, ⟨pbf0, pbf1, pbf2, pbf3, pbf4⟩, pbz⟩ := iopen5 p2
  obtain ⟨⟨sb0, sb1, sb2, sb3, sb4⟩, ⟨sbf0, sbf1, sbf2, sbf3, sbf4⟩, sbz⟩ := iopen5 s2
  obtain ⟨⟨qb0, qb1, qb2, qb3, qb4⟩, ⟨qbf0, qbf1, qbf2, qbf3, qbf4⟩, qbz⟩ := iopen5 q2
  obtain ⟨⟨rb0, rb1, rb2, rb3, rb4⟩, ⟨rbf0, rbf1, rbf2, rbf3, rbf4⟩, rbz⟩ := iopen5 r2
  go_wp2_with fail
  go_region
  all_goals (try go_wp2)
  all_goals (try simp only [Exit.inBlock, Exit.then])
  (refine bodyPost_cct rfl (w.heap.size + 1 + 1) (w.heap.size + 1 + 1 + 1) 26 26 #[.bool a, .bool b, .bool c, .bool d, .bool true] #[.bool a', .bool b', .bool c', .bool d', .bool e'] (0, 0) (0, 0) _ rfl rfl ?_ ?_ Try.underlying26 rfl info_it5 rfl rfl ⟨?_, ?_⟩)
  · refine heap_drew' ?_
    exact (put5_ne (w := put5 ((w1.alloc (.cells #[.bool a, .bool b, .bool c, .bool d, .bool true] 26)).alloc (.cells #[.bool a', .bool b', .bool c', .bool d', .bool e'] 26)) (w.heap.size + 1 + 1) a b c d true) (g := w.heap.size + 1 + 1 + 1) (k := w.heap.size + 1 + 1) a' b' c' d' e' (by omega)).trans (put5_at a b c d true q2)
  · refine heap_drew' ?_
    exact put5_at (w := put5 ((w1.alloc (.cells #[.bool a, .bool b, .bool c, .bool d, .bool true] 26)).alloc (.cells #[.bool a', .bool b', .bool c', .bool d', .bool e'] 26)) (w.heap.size + 1 + 1) a b c d true) (g := w.heap.size + 1 + 1 + 1) a' b' c' d' e' ((put5_ne (w := ((w1.alloc (.cells #[.bool a, .bool b, .bool c, .bool d, .bool true] 26)).alloc (.cells #[.bool a', .bool b', .bool c', .bool d', .bool e'] 26))) (g := w.heap.size + 1 + 1) (k := w.heap.size + 1 + 1 + 1) a b c d true (by omega)).trans r2)
  · rfl
  · exact (put5_below (put5_below D2 (w.heap.size + 1 + 1) (by omega) a b c d true) (w.heap.size + 1 + 1 + 1) (by omega) a' b' c' d' e').drew
set_option maxHeartbeats 16000000 in
set_option maxRecDepth 100000 in
theorem refact1_1 (a b c d a' b' c' d' : Bool) (w : World) (hf : Hid (fitI ⟨a, b, c, d, false⟩ ⟨a', b', c', d', true⟩ = true)) :
    Calls Try.prog 51 #[.agg #[.bool a, .bool b, .bool c, .bool d, .bool false], .agg #[.bool a', .bool b', .bool c', .bool d', .bool true], .int .i64 1] w fun x w' => x = .returned (.tuple #[.agg #[.bool a, .bool b, .bool c, .bool d, .bool false], .agg #[.bool a', .bool b', .bool c', .bool d', .bool true], .int .i64 8]) ∧ Below w.heap.size w w' := by
  have hx0 := heap_alloc_new w (.cells #[.bool a, .bool b, .bool c, .bool d, .bool false] 26)
  have hx1 := heap_alloc_new (w.alloc (.cells #[.bool a, .bool b, .bool c, .bool d, .bool false] 26)) (.cells #[.bool a', .bool b', .bool c', .bool d', .bool true] 26)
  replace hx0 := halloc hx0 (.cells #[.bool a', .bool b', .bool c', .bool d', .bool true] 26)
  have hx2 := heap_alloc_new ((w.alloc (.cells #[.bool a, .bool b, .bool c, .bool d, .bool false] 26)).alloc (.cells #[.bool a', .bool b', .bool c', .bool d', .bool true] 26)) (.cells #[.bool false, .bool false, .bool false, .bool false, .bool false] 26)
  replace hx0 := halloc hx0 (.cells #[.bool false, .bool false, .bool false, .bool false, .bool false] 26)
  replace hx1 := halloc hx1 (.cells #[.bool false, .bool false, .bool false, .bool false, .bool false] 26)
  have hx3 := heap_alloc_new (((w.alloc (.cells #[.bool a, .bool b, .bool c, .bool d, .bool false] 26)).alloc (.cells #[.bool a', .bool b', .bool c', .bool d', .bool true] 26)).alloc (.cells #[.bool false, .bool false, .bool false, .bool false, .bool false] 26)) (.cells #[.bool false, .bool false, .bool false, .bool false, .bool false] 26)
  replace hx0 := halloc hx0 (.cells #[.bool false, .bool false, .bool false, .bool false, .bool false] 26)
  replace hx1 := halloc hx1 (.cells #[.bool false, .bool false, .bool false, .bool false, .bool false] 26)
  replace hx2 := halloc hx2 (.cells #[.bool false, .bool false, .bool false, .bool false, .bool false] 26)
  simp only [size_alloc] at hx0 hx1 hx2 hx3
  have DD : Below w.heap.size w ((((w.alloc (.cells #[.bool a, .bool b, .bool c, .bool d, .bool false] 26)).alloc (.cells #[.bool a', .bool b', .bool c', .bool d', .bool true] 26)).alloc (.cells #[.bool false, .bool false, .bool false, .bool false, .bool false] 26)).alloc (.cells #[.bool false, .bool false, .bool false, .bool false, .bool false] 26)) := below_alloc0 (below_alloc0 (below_alloc0 (below_box _) _) _) _
  go_enter Try.func51, Try.ntmps51
  go_wp2_with fail
  with_reducible refine (re_ (refMayI_calls a b c d false a' b' c' d' true _) (ret_bool hf.out)).mono ?_
  rintro x w1 ⟨rfl, b1⟩
  have hy0 := hcall hx0 b1
  have hy1 := hcall hx1 b1
  have hy2 := hcall hx2 b1
  have hy3 := hcall hx3 b1
  have D := below_call DD b1
  have hz0 : w.heap.size + 1 + 1 + 1 + 1 ≤ w1.heap.size := by
    have := b1.size
    simp only [size_alloc] at this
    exact this
  clear b1 DD hx0 hx1 hx2 hx3
  obtain ⟨⟨p0, p1, p2, p3, p4⟩, ⟨pf0, pf1, pf2, pf3, pf4⟩, pz⟩ := iopen5 hy0
  have n1 : (w1.alloc (.cells #[.bool a, .bool b, .bool c, .bool d, .bool false] 26)).heap[w1.heap.size]? = some (.cells #[.bool a, .bool b, .bool c, .bool d, .bool false] 26) := heap_alloc_new _ _
  have s1 : (w1.alloc (.cells #[.bool a, .bool b, .bool c, .bool d, .bool false] 26)).heap[w.heap.size + 1]? = some (.cells #[.bool a', .bool b', .bool c', .bool d', .bool true] 26) := halloc hy1 (.cells #[.bool a, .bool b, .bool c, .bool d, .bool false] 26)
  obtain ⟨⟨s0, s1, s2, s3, s4⟩, ⟨sf0, sf1, sf2, sf3, sf4⟩, sz⟩ := iopen5 s1
  have m2 : ((w1.alloc (.cells #[.bool a, .bool b, .bool c, .bool d, .bool false] 26)).alloc (.cells #[.bool a', .bool b', .bool c', .bool d', .bool true] 26)).heap[w1.heap.size + 1]? = some (.cells #[.bool a', .bool b', .bool c', .bool d', .bool true] 26) := by
    have := heap_alloc_new (w1.alloc (.cells #[.bool a, .bool b, .bool c, .bool d, .bool false] 26)) (.cells #[.bool a', .bool b', .bool c', .bool d', .bool true] 26)
    simpa only [size_alloc] using this
  have p2 : ((w1.alloc (.cells #[.bool a, .bool b, .bool c, .bool d, .bool false] 26)).alloc (.cells #[.bool a', .bool b', .bool c', .bool d', .bool true] 26)).heap[w.heap.size]? = some (.cells #[.bool a, .bool b, .bool c, .bool d, .bool false] 26) := halloc (halloc hy0 (.cells #[.bool a, .bool b, .bool c, .bool d, .bool false] 26)) (.cells #[.bool a', .bool b', .bool c', .bool d', .bool true] 26)
  have s2 : ((w1.alloc (.cells #[.bool a, .bool b, .bool c, .bool d, .bool false] 26)).alloc (.cells #[.bool a', .bool b', .bool c', .bool d', .bool true] 26)).heap[w.heap.size + 1]? = some (.cells #[.bool a', .bool b', .bool c', .bool d', .bool true] 26) := halloc (halloc hy1 (.cells #[.bool a, .bool b, .bool c, .bool d, .bool false] 26)) (.cells #[.bool a', .bool b', .bool c', .bool d', .bool true] 26)
  have q2 : ((w1.alloc (.cells #[.bool a, .bool b, .bool c, .bool d, .bool false] 26)).alloc (.cells #[.bool a', .bool b', .bool c', .bool d', .bool true] 26)).heap[w.heap.size + 1 + 1]? = some (.cells #[.bool false, .bool false, .bool false, .bool false, .bool false] 26) := halloc (halloc hy2 (.cells #[.bool a, .bool b, .bool c, .bool d, .bool false] 26)) (.cells #[.bool a', .bool b', .bool c', .bool d', .bool true] 26)
  have r2 : ((w1.alloc (.cells #[.bool a, .bool b, .bool c, .bool d, .bool false] 26)).alloc (.cells #[.bool a', .bool b', .bool c', .bool d', .bool true] 26)).heap[w.heap.size + 1 + 1 + 1]? = some (.cells #[.bool false, .bool false, .bool false, .bool false, .bool false] 26) := halloc (halloc hy3 (.cells #[.bool a, .bool b, .bool c, .bool d, .bool false] 26)) (.cells #[.bool a', .bool b', .bool c', .bool d', .bool true] 26)
  have n2 : ((w1.alloc (.cells #[.bool a, .bool b, .bool c, .bool d, .bool false] 26)).alloc (.cells #[.bool a', .bool b', .bool c', .bool d', .bool true] 26)).heap[w1.heap.size]? = some (.cells #[.bool a, .bool b, .bool c, .bool d, .bool false] 26) := halloc n1 (.cells #[.bool a', .bool b', .bool c', .bool d', .bool true] 26)
  have D2 : Below w.heap.size w ((w1.alloc (.cells #[.bool a, .bool b, .bool c, .bool d, .bool false] 26)).alloc (.cells #[.bool a', .bool b', .bool c', .bool d', .bool true] 26)) := below_alloc0 (below_alloc0 D _) _
  obtain ⟨⟨pb0, pb1, pb2, pb3, pb4⟩, ⟨pbf0, pbf1, pbf2, pbf3, pbf4⟩, pbz⟩ := iopen5 p2
  obtain ⟨⟨sb0, sb1, sb2, sb3, sb4⟩, ⟨sbf0, sbf1, sbf2, sbf3, sbf4⟩, sbz⟩ := iopen5 s2
  obtain ⟨⟨qb0, qb1, qb2, qb3, qb4⟩, ⟨qbf0, qbf1, qbf2, qbf3, qbf4⟩, qbz⟩ := iopen5 q2
  obtain ⟨⟨rb0, rb1, rb2, rb3, rb4⟩, ⟨rbf0, rbf1, rbf2, rbf3, rbf4⟩, rbz⟩ := iopen5 r2
  go_wp2_with fail
  go_region
  all_goals (try go_wp2)
  all_goals (try simp only [Exit.inBlock, Exit.then])
  (refine bodyPost_cct rfl (w.heap.size + 1 + 1) (w.heap.size + 1 + 1 + 1) 26 26 #[.bool a, .bool b, .bool c, .bool d, .bool false] #[.bool a', .bool b', .bool c', .bool d', .bool true] (0, 0) (0, 0) _ rfl rfl ?_ ?_ Try.underlying26 rfl info_it5 rfl rfl ⟨?_, ?_⟩)
  · refine heap_drew' ?_
    exact (put5_ne (w := put5 ((w1.alloc (.cells #[.bool a, .bool b, .bool c, .bool d, .bool false] 26)).alloc (.cells #[.bool a', .bool b', .bool c', .bool d', .bool true] 26)) (w.heap.size + 1 + 1) a b c d false) (g := w.heap.size + 1 + 1 + 1) (k := w.heap.size + 1 + 1) a' b' c' d' true (by omega)).trans (put5_at a b c d false q2)
  · refine heap_drew' ?_
    exact put5_at (w := put5 ((w1.alloc (.cells #[.bool a, .bool b, .bool c, .bool d, .bool false] 26)).alloc (.cells #[.bool a', .bool b', .bool c', .bool d', .bool true] 26)) (w.heap.size + 1 + 1) a b c d false) (g := w.heap.size + 1 + 1 + 1) a' b' c' d' true ((put5_ne (w := ((w1.alloc (.cells #[.bool a, .bool b, .bool c, .bool d, .bool false] 26)).alloc (.cells #[.bool a', .bool b', .bool c', .bool d', .bool true] 26))) (g := w.heap.size + 1 + 1) (k := w.heap.size + 1 + 1 + 1) a b c d false (by omega)).trans r2)
  · rfl
  · exact (put5_below (put5_below D2 (w.heap.size + 1 + 1) (by omega) a b c d false) (w.heap.size + 1 + 1 + 1) (by omega) a' b' c' d' true).drew
set_option maxHeartbeats 16000000 in
set_option maxRecDepth 100000 in
theorem refact1_2 (b c d a' b' c' d' : Bool) (w : World) (hf : Hid (fitI ⟨true, b, c, d, false⟩ ⟨a', b', c', d', false⟩ = true)) :
    Calls Try.prog 51 #[.agg #[.bool true, .bool b, .bool c, .bool d, .bool false], .agg #[.bool a', .bool b', .bool c', .bool d', .bool false], .int .i64 1] w fun x w' => x = .returned (.tuple #[.agg #[.bool true, .bool b, .bool c, .bool d, .bool false], .agg #[.bool a', .bool b', .bool c', .bool d', .bool false], .int .i64 7]) ∧ Below w.heap.size w w' := by
  have hx0 := heap_alloc_new w (.cells #[.bool true, .bool b, .bool c, .bool d, .bool false] 26)
  have hx1 := heap_alloc_new (w.alloc (.cells #[.bool true, .bool b, .bool c, .bool d, .bool false] 26)) (.cells #[.bool a', .bool b', .bool c', .bool d', .bool false] 26)
  replace hx0 := halloc hx0 (.cells #[.bool a', .bool b', .bool c', .bool d', .bool false] 26)
  have hx2 := heap_alloc_new ((w.alloc (.cells #[.bool true, .bool b, .bool c, .bool d, .bool false] 26)).alloc (.cells #[.bool a', .bool b', .bool c', .bool d', .bool false] 26)) (.cells #[.bool false, .bool false, .bool false, .bool false, .bool false] 26)
  replace hx0 := halloc hx0 (.cells #[.bool false, .bool false, .bool false, .bool false, .bool false] 26)
  replace hx1 := halloc hx1 (.cells #[.bool false, .bool false, .bool false, .bool false, .bool false] 26)
  have hx3 := heap_alloc_new (((w.alloc (.cells #[.bool true, .bool b, .bool c, .bool d, .bool false] 26)).alloc (.cells #[.bool a', .bool b', .bool c', .bool d', .bool false] 26)).alloc (.cells #[.bool false, .bool false, .bool false, .bool false, .bool false] 26)) (.cells #[.bool false, .bool false, .bool false, .bool false, .bool false] 26)
  replace hx0 := halloc hx0 (.cells #[.bool false, .bool false, .bool false, .bool false, .bool false] 26)
  replace hx1 := halloc hx1 (.cells #[.bool false, .bool false, .bool false, .bool false, .bool false] 26)
  replace hx2 := halloc hx2 (.cells #[.bool false, .bool false, .bool false, .bool false, .bool false] 26)
  simp only [size_alloc] at hx0 hx1 hx2 hx3
  have DD : Below w.heap.size w ((((w.alloc (.cells #[.bool true, .bool b, .bool c, .bool d, .bool false] 26)).alloc (.cells #[.bool a', .bool b', .bool c', .bool d', .bool false] 26)).alloc (.cells #[.bool false, .bool false, .bool false, .bool false, .bool false] 26)).alloc (.cells #[.bool false, .bool false, .bool false, .bool false, .bool false] 26)) := below_alloc0 (below_alloc0 (below_alloc0 (below_box _) _) _) _
  go_enter Try.func51, Try.ntmps51
  go_wp2_with fail
  with_reducible refine (re_ (refMayI_calls true b c d false a' b' c' d' false _) (ret_bool hf.out)).mono ?_
  rintro x w1 ⟨rfl, b1⟩
  have hy0 := hcall hx0 b1
  have hy1 := hcall hx1 b1
  have hy2 := hcall hx2 b1
  have hy3 := hcall hx3 b1
  have D := below_call DD b1
  have hz0 : w.heap.size + 1 + 1 + 1 + 1 ≤ w1.heap.size := by
    have := b1.size
    simp only [size_alloc] at this
    exact this
  clear b1 DD hx0 hx1 hx2 hx3
  obtain ⟨⟨p0, p1, p2, p3, p4⟩, ⟨pf0, pf1, pf2, pf3, pf4⟩, pz⟩ := iopen5 hy0
  have n1 : (w1.alloc (.cells #[.bool true, .bool b, .bool c, .bool d, .bool false] 26)).heap[w1.heap.size]? = some (.cells #[.bool true, .bool b, .bool c, .bool d, .bool false] 26) := heap_alloc_new _ _
  have s1 : (w1.alloc (.cells #[.bool true, .bool b, .bool c, .bool d, .bool false] 26)).heap[w.heap.size + 1]? = some (.cells #[.bool a', .bool b', .bool c', .bool d', .bool false] 26) := halloc hy1 (.cells #[.bool true, .bool b, .bool c, .bool d, .bool false] 26)
  obtain ⟨⟨s0, s1, s2, s3, s4⟩, ⟨sf0, sf1, sf2, sf3, sf4⟩, sz⟩ := iopen5 s1
  have m2 : ((w1.alloc (.cells #[.bool true, .bool b, .bool c, .bool d, .bool false] 26)).alloc (.cells #[.bool a', .bool b', .bool c', .bool d', .bool false] 26)).heap[w1.heap.size + 1]? = some (.cells #[.bool a', .bool b', .bool c', .bool d', .bool false] 26) := by
    have := heap_alloc_new (w1.alloc (.cells #[.bool true, .bool b, .bool c, .bool d, .bool false] 26)) (.cells #[.bool a', .bool b', .bool c', .bool d', .bool false] 26)
    simpa only [size_alloc] using this
  have p2 : ((w1.alloc (.cells #[.bool true, .bool b, .bool c, .bool d, .bool false] 26)).alloc (.cells #[.bool a', .bool b', .bool c', .bool d', .bool false] 26)).heap[w.heap.size]? = some (.cells #[.bool true, .bool b, .bool c, .bool d, .bool false] 26) := halloc (halloc hy0 (.cells #[.bool true, .bool b, .bool c, .bool d, .bool false] 26)) (.cells #[.bool a', .bool b', .bool c', .bool d', .bool false] 26)
  have s2 : ((w1.alloc (.cells #[.bool true, .bool b, .bool c, .bool d, .bool false] 26)).alloc (.cells #[.bool a', .bool b', .bool c', .bool d', .bool false] 26)).heap[w.heap.size + 1]? = some (.cells #[.bool a', .bool b', .bool c', .bool d', .bool false] 26) := halloc (halloc hy1 (.cells #[.bool true, .bool b, .bool c, .bool d, .bool false] 26)) (.cells #[.bool a', .bool b', .bool c', .bool d', .bool false] 26)
  have q2 : ((w1.alloc (.cells #[.bool true, .bool b, .bool c, .bool d, .bool false] 26)).alloc (.cells #[.bool a', .bool b', .bool c', .bool d', .bool false] 26)).heap[w.heap.size + 1 + 1]? = some (.cells #[.bool false, .bool false, .bool false, .bool false, .bool false] 26) := halloc (halloc hy2 (.cells #[.bool true, .bool b, .bool c, .bool d, .bool false] 26)) (.cells #[.bool a', .bool b', .bool c', .bool d', .bool false] 26)
  have r2 : ((w1.alloc (.cells #[.bool true, .bool b, .bool c, .bool d, .bool false] 26)).alloc (.cells #[.bool a', .bool b', .bool c', .bool d', .bool false] 26)).heap[w.heap.size + 1 + 1 + 1]? = some (.cells #[.bool false, .bool false, .bool false, .bool false, .bool false] 26) := halloc (halloc hy3 (.cells #[.bool true, .bool b, .bool c, .bool d, .bool false] 26)) (.cells #[.bool a', .bool b', .bool c', .bool d', .bool false] 26)
  have n2 : ((w1.alloc (.cells #[.bool true, .bool b, .bool c, .bool d, .bool false] 26)).alloc (.cells #[.bool a', .bool b', .bool c', .bool d', .bool false] 26)).heap[w1.heap.size]? = some (.cells #[.bool true, .bool b, .bool c, .bool d, .bool false] 26) := halloc n1 (.cells #[.bool a', .bool b', .bool c', .bool d', .bool false] 26)
  have D2 : Below w.heap.size w ((w1.alloc (.cells #[.bool true, .bool b, .bool c, .bool d, .bool false] 26)).alloc (.cells #[.bool a', .bool b', .bool c', .bool d', .bool false] 26)) := below_alloc0 (below_alloc0 D _) _
  obtain ⟨⟨pb0, pb1, pb2, pb3, pb4⟩, ⟨pbf0, pbf1, pbf2, pbf3, pbf4⟩, pbz⟩ := iopen5 p2
  obtain ⟨⟨sb0, sb1, sb2, sb3, sb4⟩, ⟨sbf0, sbf1, sbf2, sbf3, sbf4⟩, sbz⟩ := iopen5 s2
  obtain ⟨⟨qb0, qb1, qb2, qb3, qb4⟩, ⟨qbf0, qbf1, qbf2, qbf3, qbf4⟩, qbz⟩ := iopen5 q2
  obtain ⟨⟨rb0, rb1, rb2, rb3, rb4⟩, ⟨rbf0, rbf1, rbf2, rbf3, rbf4⟩, rbz⟩ := iopen5 r2
  go_wp2_with fail
  go_region
  all_goals (try go_wp2)
  all_goals (try simp only [Exit.inBlock, Exit.then])
  (refine bodyPost_cct rfl (w.heap.size + 1 + 1) (w.heap.size + 1 + 1 + 1) 26 26 #[.bool true, .bool b, .bool c, .bool d, .bool false] #[.bool a', .bool b', .bool c', .bool d', .bool false] (0, 0) (0, 0) _ rfl rfl ?_ ?_ Try.underlying26 rfl info_it5 rfl rfl ⟨?_, ?_⟩)
  · refine heap_drew' ?_
    exact (put5_ne (w := put5 ((w1.alloc (.cells #[.bool true, .bool b, .bool c, .bool d, .bool false] 26)).alloc (.cells #[.bool a', .bool b', .bool c', .bool d', .bool false] 26)) (w.heap.size + 1 + 1) true b c d false) (g := w.heap.size + 1 + 1 + 1) (k := w.heap.size + 1 + 1) a' b' c' d' false (by omega)).trans (put5_at true b c d false q2)
  · refine heap_drew' ?_
    exact put5_at (w := put5 ((w1.alloc (.cells #[.bool true, .bool b, .bool c, .bool d, .bool false] 26)).alloc (.cells #[.bool a', .bool b', .bool c', .bool d', .bool false] 26)) (w.heap.size + 1 + 1) true b c d false) (g := w.heap.size + 1 + 1 + 1) a' b' c' d' false ((put5_ne (w := ((w1.alloc (.cells #[.bool true, .bool b, .bool c, .bool d, .bool false] 26)).alloc (.cells #[.bool a', .bool b', .bool c', .bool d', .bool false] 26))) (g := w.heap.size + 1 + 1) (k := w.heap.size + 1 + 1 + 1) true b c d false (by omega)).trans r2)
  · rfl
  · exact (put5_below (put5_below D2 (w.heap.size + 1 + 1) (by omega) true b c d false) (w.heap.size + 1 + 1 + 1) (by omega) a' b' c' d' false).drew
set_option maxHeartbeats 16000000 in
set_option maxRecDepth 100000 in
theorem refact1_3 (b d a' b' c' d' : Bool) (w : World) (hf : Hid (fitI ⟨false, b, true, d, false⟩ ⟨a', b', c', d', false⟩ = true)) :
    Calls Try.prog 51 #[.agg #[.bool false, .bool b, .bool true, .bool d, .bool false], .agg #[.bool a', .bool b', .bool c', .bool d', .bool false], .int .i64 1] w fun x w' => x = .returned (.tuple #[.agg #[.bool false, .bool b, .bool true, .bool d, .bool false], .agg #[.bool a', .bool b', .bool c', .bool d', .bool false], .int .i64 7]) ∧ Below w.heap.size w w' := by
  have hx0 := heap_alloc_new w (.cells #[.bool false, .bool b, .bool true, .bool d, .bool false] 26)
  have hx1 := heap_alloc_new (w.alloc (.cells #[.bool false, .bool b, .bool true, .bool d, .bool false] 26)) (.cells #[.bool a', .bool b', .bool c', .bool d', .bool false] 26)
  replace hx0 := halloc hx0 (.cells #[.bool a', .bool b', .bool c', .bool d', .bool false] 26)
  have hx2 := heap_alloc_new ((w.alloc (.cells #[.bool false, .bool b, .bool true, .bool d, .bool false] 26)).alloc (.cells #[.bool a', .bool b', .bool c', .bool d', .bool false] 26)) (.cells #[.bool false, .bool false, .bool false, .bool false, .bool false] 26)
  replace hx0 := halloc hx0 (.cells #[.bool false, .bool false, .bool false, .bool false, .bool false] 26)
  replace hx1 := halloc hx1 (.cells #[.bool false, .bool false, .bool false, .bool false, .bool false] 26)
  have hx3 := heap_alloc_new (((w.alloc (.cells #[.bool false, .bool b, .bool true, .bool d, .bool false] 26)).alloc (.cells #[.bool a', .bool b', .bool c', .bool d', .bool false] 26)).alloc (.cells #[.bool false, .bool false, .bool false, .bool false, .bool false] 26)) (.cells #[.bool false, .bool false, .bool false, .bool false, .bool false] 26)
  replace hx0 := halloc hx0 (.cells #[.bool false, .bool false, .bool false, .bool false, .bool false] 26)
  replace hx1 := halloc hx1 (.cells #[.bool false, .bool false, .bool false, .bool false, .bool false] 26)
  replace hx2 := halloc hx2 (.cells #[.bool false, .bool false, .bool false, .bool false, .bool false] 26)
  simp only [size_alloc] at hx0 hx1 hx2 hx3
  have DD : Below w.heap.size w ((((w.alloc (.cells #[.bool false, .bool b, .bool true, .bool d, .bool false] 26)).alloc (.cells #[.bool a', .bool b', .bool c', .bool d', .bool false] 26)).alloc (.cells #[.bool false, .bool false, .bool false, .bool false, .bool false] 26)).alloc (.cells #[.bool false, .bool false, .bool false, .bool false, .bool false] 26)) := below_alloc0 (below_alloc0 (below_alloc0 (below_box _) _) _) _
  go_enter Try.func51, Try.ntmps51
  go_wp2_with fail
  with_reducible refine (re_ (refMayI_calls false b true d false a' b' c' d' false _) (ret_bool hf.out)).mono ?_
  rintro x w1 ⟨rfl, b1⟩
  have hy0 := hcall hx0 b1
  have hy1 := hcall hx1 b1
  have hy2 := hcall hx2 b1
  have hy3 := hcall hx3 b1
  have D := below_call DD b1
  have hz0 : w.heap.size + 1 + 1 + 1 + 1 ≤ w1.heap.size := by
    have := b1.size
    simp only [size_alloc] at this
    exact this
  clear b1 DD hx0 hx1 hx2 hx3
  obtain ⟨⟨p0, p1, p2, p3, p4⟩, ⟨pf0, pf1, pf2, pf3, pf4⟩, pz⟩ := iopen5 hy0
  have n1 : (w1.alloc (.cells #[.bool false, .bool b, .bool true, .bool d, .bool false] 26)).heap[w1.heap.size]? = some (.cells #[.bool false, .bool b, .bool true, .bool d, .bool false] 26) := heap_alloc_new _ _
  have s1 : (w1.alloc (.cells #[.bool false, .bool b, .bool true, .bool d, .bool false] 26)).heap[w.heap.size + 1]? = some (.cells #[.bool a', .bool b', .bool c', .bool d', .bool false] 26) := halloc hy1 (.cells #[.bool false, .bool b, .bool true, .bool d, .bool false] 26)
  obtain ⟨⟨s0, s1, s2, s3, s4⟩, ⟨sf0, sf1, sf2, sf3, sf4⟩, sz⟩ := iopen5 s1
  have m2 : ((w1.alloc (.cells #[.bool false, .bool b, .bool true, .bool d, .bool false] 26)).alloc (.cells #[.bool a', .bool b', .bool c', .bool d', .bool false] 26)).heap[w1.heap.size + 1]? = some (.cells #[.bool a', .bool b', .bool c', .bool d', .bool false] 26) := by
    have := heap_alloc_new (w1.alloc (.cells #[.bool false, .bool b, .bool true, .bool d, .bool false] 26)) (.cells #[.bool a', .bool b', .bool c', .bool d', .bool false] 26)
    simpa only [size_alloc] using this
  have p2 : ((w1.alloc (.cells #[.bool false, .bool b, .bool true, .bool d, .bool false] 26)).alloc (.cells #[.bool a', .bool b', .bool c', .bool d', .bool false] 26)).heap[w.heap.size]? = some (.cells #[.bool false, .bool b, .bool true, .bool d, .bool false] 26) := halloc (halloc hy0 (.cells #[.bool false, .bool b, .bool true, .bool d, .bool false] 26)) (.cells #[.bool a', .bool b', .bool c', .bool d', .bool false] 26)
  have s2 : ((w1.alloc (.cells #[.bool false, .bool b, .bool true, .bool d, .bool false] 26)).alloc (.cells #[.bool a', .bool b', .bool c', .bool d', .bool false] 26)).heap[w.heap.size + 1]? = some (.cells #[.bool a', .bool b', .bool c', .bool d', .bool false] 26) := halloc (halloc hy1 (.cells #[.bool false, .bool b, .bool true, .bool d, .bool false] 26)) (.cells #[.bool a', .bool b', .bool c', .bool d', .bool false] 26)
  have q2 : ((w1.alloc (.cells #[.bool false, .bool b, .bool true, .bool d, .bool false] 26)).alloc (.cells #[.bool a', .bool b', .bool c', .bool d', .bool false] 26)).heap[w.heap.size + 1 + 1]? = some (.cells #[.bool false, .bool false, .bool false, .bool false, .bool false] 26) := halloc (halloc hy2 (.cells #[.bool false, .bool b, .bool true, .bool d, .bool false] 26)) (.cells #[.bool a', .bool b', .bool c', .bool d', .bool false] 26)
  have r2 : ((w1.alloc (.cells #[.bool false, .bool b, .bool true, .bool d, .bool false] 26)).alloc (.cells #[.bool a', .bool b', .bool c', .bool d', .bool false] 26)).heap[w.heap.size + 1 + 1 + 1]? = some (.cells #[.bool false, .bool false, .bool false, .bool false, .bool false] 26) := halloc (halloc hy3 (.cells #[.bool false, .bool b, .bool true, .bool d, .bool false] 26)) (.cells #[.bool a', .bool b', .bool c', .bool d', .bool false] 26)
  have n2 : ((w1.alloc (.cells #[.bool false, .bool b, .bool true, .bool d, .bool false] 26)).alloc (.cells #[.bool a', .bool b', .bool c', .bool d', .bool false] 26)).heap[w1.heap.size]? = some (.cells #[.bool false, .bool b, .bool true, .bool d, .bool false] 26) := halloc n1 (.cells #[.bool a', .bool b', .bool c', .bool d', .bool false] 26)
  have D2 : Below w.heap.size w ((w1.alloc (.cells #[.bool false, .bool b, .bool true, .bool d, .bool false] 26)).alloc (.cells #[.bool a', .bool b', .bool c', .bool d', .bool false] 26)) := below_alloc0 (below_alloc0 D _) _
  obtain ⟨⟨pb0, pb1, pb2, pb3, pb4⟩, ⟨pbf0, pbf1, pbf2, pbf3, pbf4⟩, pbz⟩ := iopen5 p2
  obtain ⟨⟨sb0, sb1, sb2, sb3, sb4⟩, ⟨sbf0, sbf1, sbf2, sbf3, sbf4⟩, sbz⟩ := iopen5 s2
  obtain ⟨⟨qb0, qb1, qb2, qb3, qb4⟩, ⟨qbf0, qbf1, qbf2, qbf3, qbf4⟩, qbz⟩ := iopen5 q2
  obtain ⟨⟨rb0, rb1, rb2, rb3, rb4⟩, ⟨rbf0, rbf1, rbf2, rbf3, rbf4⟩, rbz⟩ := iopen5 r2
  go_wp2_with fail
  go_region
  all_goals (try go_wp2)
  all_goals (try simp only [Exit.inBlock, Exit.then])
  (refine bodyPost_cct rfl (w.heap.size + 1 + 1) (w.heap.size + 1 + 1 + 1) 26 26 #[.bool false, .bool b, .bool true, .bool d, .bool false] #[.bool a', .bool b', .bool c', .bool d', .bool false] (0, 0) (0, 0) _ rfl rfl ?_ ?_ Try.underlying26 rfl info_it5 rfl rfl ⟨?_, ?_⟩)
  · refine heap_drew' ?_
    exact (put5_ne (w := put5 ((w1.alloc (.cells #[.bool false, .bool b, .bool true, .bool d, .bool false] 26)).alloc (.cells #[.bool a', .bool b', .bool c', .bool d', .bool false] 26)) (w.heap.size + 1 + 1) false b true d false) (g := w.heap.size + 1 + 1 + 1) (k := w.heap.size + 1 + 1) a' b' c' d' false (by omega)).trans (put5_at false b true d false q2)
  · refine heap_drew' ?_
    exact put5_at (w := put5 ((w1.alloc (.cells #[.bool false, .bool b, .bool true, .bool d, .bool false] 26)).alloc (.cells #[.bool a', .bool b', .bool c', .bool d', .bool false] 26)) (w.heap.size + 1 + 1) false b true d false) (g := w.heap.size + 1 + 1 + 1) a' b' c' d' false ((put5_ne (w := ((w1.alloc (.cells #[.bool false, .bool b, .bool true, .bool d, .bool false] 26)).alloc (.cells #[.bool a', .bool b', .bool c', .bool d', .bool false] 26))) (g := w.heap.size + 1 + 1) (k := w.heap.size + 1 + 1 + 1) false b true d false (by omega)).trans r2)
  · rfl
  · exact (put5_below (put5_below D2 (w.heap.size + 1 + 1) (by omega) false b true d false) (w.heap.size + 1 + 1 + 1) (by omega) a' b' c' d' false).drew
set_option maxHeartbeats 16000000 in
set_option maxRecDepth 100000 in
theorem refact1_4 (b d a' b' c' d' : Bool) (w : World) (hf : Hid (fitI ⟨false, b, false, d, false⟩ ⟨a', b', c', d', false⟩ = true)) :
    Calls Try.prog 51 #[.agg #[.bool false, .bool b, .bool false, .bool d, .bool false], .agg #[.bool a', .bool b', .bool c', .bool d', .bool false], .int .i64 1] w fun x w' => x = .returned (.tuple #[.agg #[.bool false, .bool b, .bool true, .bool d, .bool false], .agg #[.bool a', .bool b', .bool c', .bool true, .bool false], .int .i64 0]) ∧ Below w.heap.size w w' := by
  have hx0 := heap_alloc_new w (.cells #[.bool false, .bool b, .bool false, .bool d, .bool false] 26)
  have hx1 := heap_alloc_new (w.alloc (.cells #[.bool false, .bool b, .bool false, .bool d, .bool false] 26)) (.cells #[.bool a', .bool b', .bool c', .bool d', .bool false] 26)
  replace hx0 := halloc hx0 (.cells #[.bool a', .bool b', .bool c', .bool d', .bool false] 26)
  have hx2 := heap_alloc_new ((w.alloc (.cells #[.bool false, .bool b, .bool false, .bool d, .bool false] 26)).alloc (.cells #[.bool a', .bool b', .bool c', .bool d', .bool false] 26)) (.cells #[.bool false, .bool false, .bool false, .bool false, .bool false] 26)
  replace hx0 := halloc hx0 (.cells #[.bool false, .bool false, .bool false, .bool false, .bool false] 26)
  replace hx1 := halloc hx1 (.cells #[.bool false, .bool false, .bool false, .bool false, .bool false] 26)
  have hx3 := heap_alloc_new (((w.alloc (.cells #[.bool false, .bool b, .bool false, .bool d, .bool false] 26)).alloc (.cells #[.bool a', .bool b', .bool c', .bool d', .bool false] 26)).alloc (.cells #[.bool false, .bool false, .bool false, .bool false, .bool false] 26)) (.cells #[.bool false, .bool false, .bool false, .bool false, .bool false] 26)
  replace hx0 := halloc hx0 (.cells #[.bool false, .bool false, .bool false, .bool false, .bool false] 26)
  replace hx1 := halloc hx1 (.cells #[.bool false, .bool false, .bool false, .bool false, .bool false] 26)
  replace hx2 := halloc hx2 (.cells #[.bool false, .bool false, .bool false, .bool false, .bool false] 26)
  simp only [size_alloc] at hx0 hx1 hx2 hx3
  have DD : Below w.heap.size w ((((w.alloc (.cells #[.bool false, .bool b, .bool false, .bool d, .bool false] 26)).alloc (.cells #[.bool a', .bool b', .bool c', .bool d', .bool false] 26)).alloc (.cells #[.bool false, .bool false, .bool false, .bool false, .bool false] 26)).alloc (.cells #[.bool false, .bool false, .bool false, .bool false, .bool false] 26)) := below_alloc0 (below_alloc0 (below_alloc0 (below_box _) _) _) _
  go_enter Try.func51, Try.ntmps51
  go_wp2_with fail
  with_reducible refine (re_ (refMayI_calls false b false d false a' b' c' d' false _) (ret_bool hf.out)).mono ?_
  rintro x w1 ⟨rfl, b1⟩
  have hy0 := hcall hx0 b1
  have hy1 := hcall hx1 b1
  have hy2 := hcall hx2 b1
  have hy3 := hcall hx3 b1
  have D := below_call DD b1
  have hz0 : w.heap.size + 1 + 1 + 1 + 1 ≤ w1.heap.size := by
    have := b1.size
    simp only [size_alloc] at this
    exact this
  clear b1 DD hx0 hx1 hx2 hx3
  obtain ⟨⟨p0, p1, p2, p3, p4⟩, ⟨pf0, pf1, pf2, pf3, pf4⟩, pz⟩ := iopen5 hy0
  have n1 : (w1.alloc (.cells #[.bool false, .bool b, .bool false, .bool d, .bool false] 26)).heap[w1.heap.size]? = some (.cells #[.bool false, .bool b, .bool false, .bool d, .bool false] 26) := heap_alloc_new _ _
  have s1 : (w1.alloc (.cells #[.bool false, .bool b, .bool false, .bool d, .bool false] 26)).heap[w.heap.size + 1]? = some (.cells #[.bool a', .bool b', .bool c', .bool d', .bool false] 26) := halloc hy1 (.cells #[.bool false, .bool b, .bool false, .bool d, .bool false] 26)
  obtain ⟨⟨s0, s1, s2, s3, s4⟩, ⟨sf0, sf1, sf2, sf3, sf4⟩, sz⟩ := iopen5 s1
  have m2 : ((w1.alloc (.cells #[.bool false, .bool b, .bool false, .bool d, .bool false] 26)).alloc (.cells #[.bool a', .bool b', .bool c', .bool d', .bool false] 26)).heap[w1.heap.size + 1]? = some (.cells #[.bool a', .bool b', .bool c', .bool d', .bool false] 26) := by
    have := heap_alloc_new (w1.alloc (.cells #[.bool false, .bool b, .bool false, .bool d, .bool false] 26)) (.cells #[.bool a', .bool b', .bool c', .bool d', .bool false] 26)
    simpa only [size_alloc] using this
  have p2 : ((w1.alloc (.cells #[.bool false, .bool b, .bool false, .bool d, .bool false] 26)).alloc (.cells #[.bool a', .bool b', .bool c', .bool d', .bool false] 26)).heap[w.heap.size]? = some (.cells #[.bool false, .bool b, .bool false, .bool d, .bool false] 26) := halloc (halloc hy0 (.cells #[.bool false, .bool b, .bool false, .bool d, .bool false] 26)) (.cells #[.bool a', .bool b', .bool c', .bool d', .bool false] 26)
  have s2 : ((w1.alloc (.cells #[.bool false, .bool b, .bool false, .bool d, .bool false] 26)).alloc (.cells #[.bool a', .bool b', .bool c', .bool d', .bool false] 26)).heap[w.heap.size + 1]? = some (.cells #[.bool a', .bool b', .bool c', .bool d', .bool false] 26) := halloc (halloc hy1 (.cells #[.bool false, .bool b, .bool false, .bool d, .bool false] 26)) (.cells #[.bool a', .bool b', .bool c', .bool d', .bool false] 26)
  have q2 : ((w1.alloc (.cells #[.bool false, .bool b, .bool false, .bool d, .bool false] 26)).alloc (.cells #[.bool a', .bool b', .bool c', .bool d', .bool false] 26)).heap[w.heap.size + 1 + 1]? = some (.cells #[.bool false, .bool false, .bool false, .bool false, .bool false] 26) := halloc (halloc hy2 (.cells #[.bool false, .bool b, .bool false, .bool d, .bool false] 26)) (.cells #[.bool a', .bool b', .bool c', .bool d', .bool false] 26)
  have r2 : ((w1.alloc (.cells #[.bool false, .bool b, .bool false, .bool d, .bool false] 26)).alloc (.cells #[.bool a', .bool b', .bool c', .bool d', .bool false] 26)).heap[w.heap.size + 1 + 1 + 1]? = some (.cells #[.bool false, .bool false, .bool false, .bool false, .bool false] 26) := halloc (halloc hy3 (.cells #[.bool false, .bool b, .bool false, .bool d, .bool false] 26)) (.cells #[.bool a', .bool b', .bool c', .bool d', .bool false] 26)
  have n2 : ((w1.alloc (.cells #[.bool false, .bool b, .bool false, .bool d, .bool false] 26)).alloc (.cells #[.bool a', .bool b', .bool c', .bool d', .bool false] 26)).heap[w1.heap.size]? = some (.cells #[.bool false, .bool b, .bool false, .bool d, .bool false] 26) := halloc n1 (.cells #[.bool a', .bool b', .bool c', .bool d', .bool false] 26)
  have D2 : Below w.heap.size w ((w1.alloc (.cells #[.bool false, .bool b, .bool false, .bool d, .bool false] 26)).alloc (.cells #[.bool a', .bool b', .bool c', .bool d', .bool false] 26)) := below_alloc0 (below_alloc0 D _) _
  obtain ⟨⟨pb0, pb1, pb2, pb3, pb4⟩, ⟨pbf0, pbf1, pbf2, pbf3, pbf4⟩, pbz⟩ := iopen5 p2
  obtain ⟨⟨sb0, sb1, sb2, sb3, sb4⟩, ⟨sbf0, sbf1, sbf2, sbf3, sbf4⟩, sbz⟩ := iopen5 s2
  obtain ⟨⟨nb0, nb1, nb2, nb3, nb4⟩, ⟨nbf0, nbf1, nbf2, nbf3, nbf4⟩, nbz⟩ := iopen5 n2
  obtain ⟨⟨mb0, mb1, mb2, mb3, mb4⟩, ⟨mbf0, mbf1, mbf2, mbf3, mbf4⟩, mbz⟩ := iopen5 m2
  have n3 : ((w1.alloc (.cells #[.bool false, .bool b, .bool true, .bool d, .bool false] 26)).alloc (.cells #[.bool a', .bool b', .bool c', .bool true, .bool false] 26)).heap[w1.heap.size]? = some (.cells #[.bool false, .bool b, .bool true, .bool d, .bool false] 26) := halloc (heap_alloc_new _ _) (.cells #[.bool a', .bool b', .bool c', .bool true, .bool false] 26)
  have m3 : ((w1.alloc (.cells #[.bool false, .bool b, .bool true, .bool d, .bool false] 26)).alloc (.cells #[.bool a', .bool b', .bool c', .bool true, .bool false] 26)).heap[w1.heap.size + 1]? = some (.cells #[.bool a', .bool b', .bool c', .bool true, .bool false] 26) := by
    have := heap_alloc_new (w1.alloc (.cells #[.bool false, .bool b, .bool true, .bool d, .bool false] 26)) (.cells #[.bool a', .bool b', .bool c', .bool true, .bool false] 26)
    simpa only [size_alloc] using this
  have q3 : ((w1.alloc (.cells #[.bool false, .bool b, .bool true, .bool d, .bool false] 26)).alloc (.cells #[.bool a', .bool b', .bool c', .bool true, .bool false] 26)).heap[w.heap.size + 1 + 1]? = some (.cells #[.bool false, .bool false, .bool false, .bool false, .bool false] 26) := halloc (halloc hy2 (.cells #[.bool false, .bool b, .bool true, .bool d, .bool false] 26)) (.cells #[.bool a', .bool b', .bool c', .bool true, .bool false] 26)
  have r3 : ((w1.alloc (.cells #[.bool false, .bool b, .bool true, .bool d, .bool false] 26)).alloc (.cells #[.bool a', .bool b', .bool c', .bool true, .bool false] 26)).heap[w.heap.size + 1 + 1 + 1]? = some (.cells #[.bool false, .bool false, .bool false, .bool false, .bool false] 26) := halloc (halloc hy3 (.cells #[.bool false, .bool b, .bool true, .bool d, .bool false] 26)) (.cells #[.bool a', .bool b', .bool c', .bool true, .bool false] 26)
  have D3 : Below w.heap.size w ((w1.alloc (.cells #[.bool false, .bool b, .bool true, .bool d, .bool false] 26)).alloc (.cells #[.bool a', .bool b', .bool c', .bool true, .bool false] 26)) := below_alloc0 (below_alloc0 D _) _
  obtain ⟨⟨nd0, nd1, nd2, nd3, nd4⟩, ⟨ndf0, ndf1, ndf2, ndf3, ndf4⟩, ndz⟩ := iopen5 n3
  obtain ⟨⟨md0, md1, md2, md3, md4⟩, ⟨mdf0, mdf1, mdf2, mdf3, mdf4⟩, mdz⟩ := iopen5 m3
  obtain ⟨⟨qd0, qd1, qd2, qd3, qd4⟩, ⟨qdf0, qdf1, qdf2, qdf3, qdf4⟩, qdz⟩ := iopen5 q3
  obtain ⟨⟨rd0, rd1, rd2, rd3, rd4⟩, ⟨rdf0, rdf1, rdf2, rdf3, rdf4⟩, rdz⟩ := iopen5 r3
  go_wp2_with fail
  go_region
  all_goals (try go_wp2)
  all_goals (try simp only [Exit.inBlock, Exit.then])
  (refine bodyPost_cct rfl (w.heap.size + 1 + 1) (w.heap.size + 1 + 1 + 1) 26 26 #[.bool false, .bool b, .bool true, .bool d, .bool false] #[.bool a', .bool b', .bool c', .bool true, .bool false] (0, 0) (0, 0) _ rfl rfl ?_ ?_ Try.underlying26 rfl info_it5 rfl rfl ⟨?_, ?_⟩)
  · refine heap_drew' ?_
    exact (put5_ne (w := put5 ((w1.alloc (.cells #[.bool false, .bool b, .bool true, .bool d, .bool false] 26)).alloc (.cells #[.bool a', .bool b', .bool c', .bool true, .bool false] 26)) (w.heap.size + 1 + 1) false b true d false) (g := w.heap.size + 1 + 1 + 1) (k := w.heap.size + 1 + 1) a' b' c' true false (by omega)).trans (put5_at false b true d false q3)
  · refine heap_drew' ?_
    exact put5_at (w := put5 ((w1.alloc (.cells #[.bool false, .bool b, .bool true, .bool d, .bool false] 26)).alloc (.cells #[.bool a', .bool b', .bool c', .bool true, .bool false] 26)) (w.heap.size + 1 + 1) false b true d false) (g := w.heap.size + 1 + 1 + 1) a' b' c' true false ((put5_ne (w := ((w1.alloc (.cells #[.bool false, .bool b, .bool true, .bool d, .bool false] 26)).alloc (.cells #[.bool a', .bool b', .bool c', .bool true, .bool false] 26))) (g := w.heap.size + 1 + 1) (k := w.heap.size + 1 + 1 + 1) false b true d false (by omega)).trans r3)
  · rfl
  · exact (put5_below (put5_below D3 (w.heap.size + 1 + 1) (by omega) false b true d false) (w.heap.size + 1 + 1 + 1) (by omega) a' b' c' true false).drew
set_option maxHeartbeats 16000000 in
set_option maxRecDepth 100000 in
theorem refact2_0 (a b c d a' b' c' d' e' : Bool) (w : World) (hf : Hid (fitI ⟨a, b, c, d, true⟩ ⟨a', b', c', d', e'⟩ = true)) :
    Calls Try.prog 51 #[.agg #[.bool a, .bool b, .bool c, .bool d, .bool true], .agg #[.bool a', .bool b', .bool c', .bool d', .bool e'], .int .i64 2] w fun x w' => x = .returned (.tuple #[.agg #[.bool a, .bool b, .bool c, .bool d, .bool true], .agg #[.bool a', .bool b', .bool c', .bool d', .bool e'], .int .i64 8]) ∧ Below w.heap.size w w' := by
  have hx0 := heap_alloc_new w (.cells #[.bool a, .bool b, .bool c, .bool d, .bool true] 26)
  have hx1 := heap_alloc_new (w.alloc (.cells #[.bool a, .bool b, .bool c, .bool d, .bool true] 26)) (.cells #[.bool a', .bool b', .bool c', .bool d', .bool e'] 26)
  replace hx0 := halloc hx0 (.cells #[.bool a', .bool b', .bool c', .bool d', .bool e'] 26)
  have hx2 := heap_alloc_new ((w.alloc (.cells #[.bool a, .bool b, .bool c, .bool d, .bool true] 26)).alloc (.cells #[.bool a', .bool b', .bool c', .bool d', .bool e'] 26)) (.cells #[.bool false, .bool false, .bool false, .bool false, .bool false] 26)
  replace hx0 := halloc hx0 (.cells #[.bool false, .bool false, .bool false, .bool false, .bool false] 26)
  replace hx1 := halloc hx1 (.cells #[.bool false, .bool false, .bool false, .bool false, .bool false] 26)
  have hx3 := heap_alloc_new (((w.alloc (.cells #[.bool a, .bool b, .bool c, .bool d, .bool true] 26)).alloc (.cells #[.bool a', .bool b', .bool c', .bool d', .bool e'] 26)).alloc (.cells #[.bool false, .bool false, .bool false, .bool false, .bool false] 26)) (.cells #[.bool false, .bool false, .bool false, .bool false, .bool false] 26)
  replace hx0 := halloc hx0 (.cells #[.bool false, .bool false, .bool false, .bool false, .bool false] 26)
  replace hx1 := halloc hx1 (.cells #[.bool false, .bool false, .bool false, .bool false, .bool false] 26)
  replace hx2 := halloc hx2 (.cells #[.bool false, .bool false, .bool false, .bool false, .bool false] 26)
  simp only [size_alloc] at hx0 hx1 hx2 hx3
  have DD : Below w.heap.size w ((((w.alloc (.cells #[.bool a, .bool b, .bool c, .bool d, .bool true] 26)).alloc (.cells #[.bool a', .bool b', .bool c', .bool d', .bool e'] 26)).alloc (.cells #[.bool false, .bool false, .bool false, .bool false, .bool false] 26)).alloc (.cells #[.bool false, .bool false, .bool false, .bool false, .bool false] 26)) := below_alloc0 (below_alloc0 (below_alloc0 (below_box _) _) _) _
  go_enter Try.func51, Try.ntmps51
  go_wp2_with fail
  with_reducible refine (re_ (refMayI_calls a b c d true a' b' c' d' e' _) (ret_bool hf.out)).mono ?_
  rintro x w1 ⟨rfl, b1⟩
  have hy0 := hcall hx0 b1
  have hy1 := hcall hx1 b1
  have hy2 := hcall hx2 b1
  have hy3 := hcall hx3 b1
  have D := below_call DD b1
  have hz0 : w.heap.size + 1 + 1 + 1 + 1 ≤ w1.heap.size := by
    have := b1.size
    simp only [size_alloc] at this
    exact this
  clear b1 DD hx0 hx1 hx2 hx3
  obtain ⟨⟨p0, p1, p2, p3, p4⟩, ⟨pf0, pf1, pf2, pf3, pf4⟩, pz⟩ := iopen5 hy0
  have n1 : (w1.alloc (.cells #[.bool a, .bool b, .bool c, .bool d, .bool true] 26)).heap[w1.heap.size]? = some (.cells #[.bool a, .bool b, .bool c, .bool d, .bool true] 26) := heap_alloc_new _ _
  have s1 : (w1.alloc (.cells #[.bool a, .bool b, .bool c, .bool d, .bool true] 26)).heap[w.heap.size + 1]? = some (.cells #[.bool a', .bool b', .bool c', .bool d', .bool e'] 26) := halloc hy1 (.cells #[.bool a, .bool b, .bool c, .bool d, .bool true] 26)
  obtain ⟨⟨s0, s1, s2, s3, s4⟩, ⟨sf0, sf1, sf2, sf3, sf4⟩, sz⟩ := iopen5 s1
  have m2 : ((w1.alloc (.cells #[.bool a, .bool b, .bool c, .bool d, .bool true] 26)).alloc (.cells #[.bool a', .bool b', .bool c', .bool d', .bool e'] 26)).heap[w1.heap.size + 1]? = some (.cells #[.bool a', .bool b', .bool c', .bool d', .bool e'] 26) := by
    have := heap_alloc_new (w1.alloc (.cells #[.bool a, .bool b, .bool c, .bool d, .bool true] 26)) (.cells #[.bool a', .bool b', .bool c', .bool d', .bool e'] 26)
    simpa only [size_alloc] using this
  have p2 : ((w1.alloc (.cells #[.bool a, .bool b, .bool c, .bool d, .bool true] 26)).alloc (.cells #[.bool a', .bool b', .bool c', .bool d', .bool e'] 26)).heap[w.heap.size]? = some (.cells #[.bool a, .bool b, .bool c, .bool d, .bool true] 26) := halloc (halloc hy0 (.cells #[.bool a, .bool b, .bool c, .bool d, .bool true] 26)) (.cells #[.bool a', .bool b', .bool c', .bool d', .bool e'] 26)
  have s2 : ((w1.alloc (.cells #[.bool a, .bool b, .bool c, .bool d, .bool true] 26)).alloc (.cells #[.bool a', .bool b', .bool c', .bool d', .bool e'] 26)).heap[w.heap.size + 1]? = some (.cells #[.bool a', .bool b', .bool c', .bool d', .bool e'] 26) := halloc (halloc hy1 (.cells #[.bool a, .bool b, .bool c, .bool d, .bool true] 26)) (.cells #[.bool a', .bool b', .bool c', .bool d', .bool e'] 26)
  have q2 : ((w1.alloc (.cells #[.bool a, .bool b, .bool c, .bool d, .bool true] 26)).alloc (.cells #[.bool a', .bool b', .bool c', .bool d', .bool e'] 26)).heap[w.heap.size + 1 + 1]? = some (.cells #[.bool false, .bool false, .bool false, .bool false, .bool false] 26) := halloc (halloc hy2 (.cells #[.bool a, .bool b, .bool c, .bool d, .bool true] 26)) (.cells #[.bool a', .bool b', .bool c', .bool d', .bool e'] 26)
  have r2 : ((w1.alloc (.cells #[.bool a, .bool b, .bool c, .bool d, .bool true] 26)).alloc (.cells #[.bool a', .bool b', .bool c', .bool d', .bool e'] 26)).heap[w.heap.size + 1 + 1 + 1]? = some (.cells #[.bool false, .bool false, .bool false, .bool false, .bool false] 26) := halloc (halloc hy3 (.cells #[.bool a, .bool b, .bool c, .bool d, .bool true] 26)) (.cells #[.bool a', .bool b', .bool c', .bool d', .bool e'] 26)
  have n2 : ((w1.alloc (.cells #[.bool a, .bool b, .bool c, .bool d, .bool true] 26)).alloc (.cells #[.bool a', .bool b', .bool c', .bool d', .bool e'] 26)).heap[w1.heap.size]? = some (.cells #[.bool a, .bool b, .bool c, .bool d, .bool true] 26) := halloc n1 (.cells #[.bool a', .bool b', .bool c', .bool d', .bool e'] 26)
  have D2 : Below w.heap.size w ((w1.alloc (.cells #[.bool a, .bool b, .bool c, .bool d, .bool true] 26)).alloc (.cells #[.bool a', .bool b', .bool c', .bool d', .bool e'] 26)) := below_alloc0 (below_alloc0 D _) _
  obtain ⟨⟨pb0, pb1, pb2, pb3, pb4⟩, ⟨pbf0, pbf1, pbf2, pbf3, pbf4⟩, pbz⟩ := iopen5 p2
  obtain ⟨⟨sb0, sb1, sb2, sb3, sb4⟩, ⟨sbf0, sbf1, sbf2, sbf3, sbf4⟩, sbz⟩ := iopen5 s2
  obtain ⟨⟨qb0, qb1, qb2, qb3, qb4⟩, ⟨qbf0, qbf1, qbf2, qbf3, qbf4⟩, qbz⟩ := iopen5 q2
  obtain ⟨⟨rb0, rb1, rb2, rb3, rb4⟩, ⟨rbf0, rbf1, rbf2, rbf3, rbf4⟩, rbz⟩ := iopen5 r2
  go_wp2_with fail
  go_region
  all_goals (try go_wp2)
  all_goals (try simp only [Exit.inBlock, Exit.then])
  (refine bodyPost_cct rfl (w.heap.size + 1 + 1) (w.heap.size + 1 + 1 + 1) 26 26 #[.bool a, .bool b, .bool c, .bool d, .bool true] #[.bool a', .bool b', .bool c', .bool d', .bool e'] (0, 0) (0, 0) _ rfl rfl ?_ ?_ Try.underlying26 rfl info_it5 rfl rfl ⟨?_, ?_⟩)
  · refine heap_drew' ?_
    exact (put5_ne (w := put5 ((w1.alloc (.cells #[.bool a, .bool b, .bool c, .bool d, .bool true] 26)).alloc (.cells #[.bool a', .bool b', .bool c', .bool d', .bool e'] 26)) (w.heap.size + 1 + 1) a b c d true) (g := w.heap.size + 1 + 1 + 1) (k := w.heap.size + 1 + 1) a' b' c' d' e' (by omega)).trans (put5_at a b c d true q2)
  · refine heap_drew' ?_
    exact put5_at (w := put5 ((w1.alloc (.cells #[.bool a, .bool b, .bool c, .bool d, .bool true] 26)).alloc (.cells #[.bool a', .bool b', .bool c', .bool d', .bool e'] 26)) (w.heap.size + 1 + 1) a b c d true) (g := w.heap.size + 1 + 1 + 1) a' b' c' d' e' ((put5_ne (w := ((w1.alloc (.cells #[.bool a, .bool b, .bool c, .bool d, .bool true] 26)).alloc (.cells #[.bool a', .bool b', .bool c', .bool d', .bool e'] 26))) (g := w.heap.size + 1 + 1) (k := w.heap.size + 1 + 1 + 1) a b c d true (by omega)).trans r2)
  · rfl
  · exact (put5_below (put5_below D2 (w.heap.size + 1 + 1) (by omega) a b c d true) (w.heap.size + 1 + 1 + 1) (by omega) a' b' c' d' e').drew
set_option maxHeartbeats 16000000 in
set_option maxRecDepth 100000 in
theorem refact2_1 (a b c d a' b' c' d' : Bool) (w : World) (hf : Hid (fitI ⟨a, b, c, d, false⟩ ⟨a', b', c', d', true⟩ = true)) :
    Calls Try.prog 51 #[.agg #[.bool a, .bool b, .bool c, .bool d, .bool false], .agg #[.bool a', .bool b', .bool c', .bool d', .bool true], .int .i64 2] w fun x w' => x = .returned (.tuple #[.agg #[.bool a, .bool b, .bool c, .bool d, .bool false], .agg #[.bool a', .bool b', .bool c', .bool d', .bool true], .int .i64 8]) ∧ Below w.heap.size w w' := by
  have hx0 := heap_alloc_new w (.cells #[.bool a, .bool b, .bool c, .bool d, .bool false] 26)
  have hx1 := heap_alloc_new (w.alloc (.cells #[.bool a, .bool b, .bool c, .bool d, .bool false] 26)) (.cells #[.bool a', .bool b', .bool c', .bool d', .bool true] 26)
  replace hx0 := halloc hx0 (.cells #[.bool a', .bool b', .bool c', .bool d', .bool true] 26)
  have hx2 := heap_alloc_new ((w.alloc (.cells #[.bool a, .bool b, .bool c, .bool d, .bool false] 26)).alloc (.cells #[.bool a', .bool b', .bool c', .bool d', .bool true] 26)) (.cells #[.bool false, .bool false, .bool false, .bool false, .bool false] 26)
  replace hx0 := halloc hx0 (.cells #[.bool false, .bool false, .bool false, .bool false, .bool false] 26)
  replace hx1 := halloc hx1 (.cells #[.bool false, .bool false, .bool false, .bool false, .bool false] 26)
  have hx3 := heap_alloc_new (((w.alloc (.cells #[.bool a, .bool b, .bool c, .bool d, .bool false] 26)).alloc (.cells #[.bool a', .bool b', .bool c', .bool d', .bool true] 26)).alloc (.cells #[.bool false, .bool false, .bool false, .bool false, .bool false] 26)) (.cells #[.bool false, .bool false, .bool false, .bool false, .bool false] 26)
  replace hx0 := halloc hx0 (.cells #[.bool false, .bool false, .bool false, .bool false, .bool false] 26)
  replace hx1 := halloc hx1 (.cells #[.bool false, .bool false, .bool false, .bool false, .bool false] 26)
  replace hx2 := halloc hx2 (.cells #[.bool false, .bool false, .bool false, .bool false, .bool false] 26)
  simp only [size_alloc] at hx0 hx1 hx2 hx3
  have DD : Below w.heap.size w ((((w.alloc (.cells #[.bool a, .bool b, .bool c, .bool d, .bool false] 26)).alloc (.cells #[.bool a', .bool b', .bool c', .bool d', .bool true] 26)).alloc (.cells #[.bool false, .bool false, .bool false, .bool false, .bool false] 26)).alloc (.cells #[.bool false, .bool false, .bool false, .bool false, .bool false] 26)) := below_alloc0 (below_alloc0 (below_alloc0 (below_box _) _) _) _
  go_enter Try.func51, Try.ntmps51
  go_wp2_with fail
  with_reducible refine (re_ (refMayI_calls a b c d false a' b' c' d' true _) (ret_bool hf.out)).mono ?_
  rintro x w1 ⟨rfl, b1⟩
  have hy0 := hcall hx0 b1
  have hy1 := hcall hx1 b1
  have hy2 := hcall hx2 b1
  have hy3 := hcall hx3 b1
  have D := below_call DD b1
  have hz0 : w.heap.size + 1 + 1 + 1 + 1 ≤ w1.heap.size := by
    have := b1.size
    simp only [size_alloc] at this
    exact this
  clear b1 DD hx0 hx1 hx2 hx3
  obtain ⟨⟨p0, p1, p2, p3, p4⟩, ⟨pf0, pf1, pf2, pf3, pf4⟩, pz⟩ := iopen5 hy0
  have n1 : (w1.alloc (.cells #[.bool a, .bool b, .bool c, .bool d, .bool false] 26)).heap[w1.heap.size]? = some (.cells #[.bool a, .bool b, .bool c, .bool d, .bool false] 26) := heap_alloc_new _ _
  have s1 : (w1.alloc (.cells #[.bool a, .bool b, .bool c, .bool d, .bool false] 26)).heap[w.heap.size + 1]? = some (.cells #[.bool a', .bool b', .bool c', .bool d', .bool true] 26) := halloc hy1 (.cells #[.bool a, .bool b, .bool c, .bool d, .bool false] 26)
  obtain ⟨⟨s0, s1, s2, s3, s4⟩, ⟨sf0, sf1, sf2, sf3, sf4⟩, sz⟩ := iopen5 s1
  have m2 : ((w1.alloc (.cells #[.bool a, .bool b, .bool c, .bool d, .bool false] 26)).alloc (.cells #[.bool a', .bool b', .bool c', .bool d', .bool true] 26)).heap[w1.heap.size + 1]? = some (.cells #[.bool a', .bool b', .bool c', .bool d', .bool true] 26) := by
    have := heap_alloc_new (w1.alloc (.cells #[.bool a, .bool b, .bool c, .bool d, .bool false] 26)) (.cells #[.bool a', .bool b', .bool c', .bool d', .bool true] 26)
    simpa only [size_alloc] using this
  have p2 : ((w1.alloc (.cells #[.bool a, .bool b, .bool c, .bool d, .bool false] 26)).alloc (.cells #[.bool a', .bool b', .bool c', .bool d', .bool true] 26)).heap[w.heap.size]? = some (.cells #[.bool a, .bool b, .bool c, .bool d, .bool false] 26) := halloc (halloc hy0 (.cells #[.bool a, .bool b, .bool c, .bool d, .bool false] 26)) (.cells #[.bool a', .bool b', .bool c', .bool d', .bool true] 26)
  have s2 : ((w1.alloc (.cells #[.bool a, .bool b, .bool c, .bool d, .bool false] 26)).alloc (.cells #[.bool a', .bool b', .bool c', .bool d', .bool true] 26)).heap[w.heap.size + 1]? = some (.cells #[.bool a', .bool b', .bool c', .bool d', .bool true] 26) := halloc (halloc hy1 (.cells #[.bool a, .bool b, .bool c, .bool d, .bool false] 26)) (.cells #[.bool a', .bool b', .bool c', .bool d', .bool true] 26)
  have q2 : ((w1.alloc (.cells #[.bool a, .bool b, .bool c, .bool d, .bool false] 26)).alloc (.cells #[.bool a', .bool b', .bool c', .bool d', .bool true] 26)).heap[w.heap.size + 1 + 1]? = some (.cells #[.bool false, .bool false, .bool false, .bool false, .bool false] 26) := halloc (halloc hy2 (.cells #[.bool a, .bool b, .bool c, .bool d, .bool false] 26)) (.cells #[.bool a', .bool b', .bool c', .bool d', .bool true] 26)
  have r2 : ((w1.alloc (.cells #[.bool a, .bool b, .bool c, .bool d, .bool false] 26)).alloc (.cells #[.bool a', .bool b', .bool c', .bool d', .bool true] 26)).heap[w.heap.size + 1 + 1 + 1]? = some (.cells #[.bool false, .bool false, .bool false, .bool false, .bool false] 26) := halloc (halloc hy3 (.cells #[.bool a, .bool b, .bool c, .bool d, .bool false] 26)) (.cells #[.bool a', .bool b', .bool c', .bool d', .bool true] 26)
  have n2 : ((w1.alloc (.cells #[.bool a, .bool b, .bool c, .bool d, .bool false] 26)).alloc (.cells #[.bool a', .bool b', .bool c', .bool d', .bool true] 26)).heap[w1.heap.size]? = some (.cells #[.bool a, .bool b, .bool c, .bool d, .bool false] 26) := halloc n1 (.cells #[.bool a', .bool b', .bool c', .bool d', .bool true] 26)
  have D2 : Below w.heap.size w ((w1.alloc (.cells #[.bool a, .bool b, .bool c, .bool d, .bool false] 26)).alloc (.cells #[.bool a', .bool b', .bool c', .bool d', .bool true] 26)) := below_alloc0 (below_alloc0 D _) _
  obtain ⟨⟨pb0, pb1, pb2, pb3, pb4⟩, ⟨pbf0, pbf1, pbf2, pbf3, pbf4⟩, pbz⟩ := iopen5 p2
  obtain ⟨⟨sb0, sb1, sb2, sb3, sb4⟩, ⟨sbf0, sbf1, sbf2, sbf3, sbf4⟩, sbz⟩ := iopen5 s2
  obtain ⟨⟨qb0, qb1, qb2, qb3, qb4⟩, ⟨qbf0, qbf1, qbf2, qbf3, qbf4⟩, qbz⟩ := iopen5 q2
  obtain ⟨⟨rb0, rb1, rb2, rb3, rb4⟩, ⟨rbf0, rbf1, rbf2, rbf3, rbf4⟩, rbz⟩ := iopen5 r2
  go_wp2_with fail
  go_region
  all_goals (try go_wp2)
  all_goals (try simp only [Exit.inBlock, Exit.then])
  (refine bodyPost_cct rfl (w.heap.size + 1 + 1) (w.heap.size + 1 + 1 + 1) 26 26 #[.bool a, .bool b, .bool c, .bool d, .bool false] #[.bool a', .bool b', .bool c', .bool d', .bool true] (0, 0) (0, 0) _ rfl rfl ?_ ?_ Try.underlying26 rfl info_it5 rfl rfl ⟨?_, ?_⟩)
  · refine heap_drew' ?_
    exact (put5_ne (w := put5 ((w1.alloc (.cells #[.bool a, .bool b, .bool c, .bool d, .bool false] 26)).alloc (.cells #[.bool a', .bool b', .bool c', .bool d', .bool true] 26)) (w.heap.size + 1 + 1) a b c d false) (g := w.heap.size + 1 + 1 + 1) (k := w.heap.size + 1 + 1) a' b' c' d' true (by omega)).trans (put5_at a b c d false q2)
  · refine heap_drew' ?_
    exact put5_at (w := put5 ((w1.alloc (.cells #[.bool a, .bool b, .bool c, .bool d, .bool false] 26)).alloc (.cells #[.bool a', .bool b', .bool c', .bool d', .bool true] 26)) (w.heap.size + 1 + 1) a b c d false) (g := w.heap.size + 1 + 1 + 1) a' b' c' d' true ((put5_ne (w := ((w1.alloc (.cells #[.bool a, .bool b, .bool c, .bool d, .bool false] 26)).alloc (.cells #[.bool a', .bool b', .bool c', .bool d', .bool true] 26))) (g := w.heap.size + 1 + 1) (k := w.heap.size + 1 + 1 + 1) a b c d false (by omega)).trans r2)
  · rfl
  · exact (put5_below (put5_below D2 (w.heap.size + 1 + 1) (by omega) a b c d false) (w.heap.size + 1 + 1 + 1) (by omega) a' b' c' d' true).drew
set_option maxHeartbeats 16000000 in
set_option maxRecDepth 100000 in
theorem refact2_2 (a b c a' b' c' d' : Bool) (w : World) (hf : Hid (fitI ⟨a, b, c, false, false⟩ ⟨a', b', c', d', false⟩ = true)) :
    Calls Try.prog 51 #[.agg #[.bool a, .bool b, .bool c, .bool false, .bool false], .agg #[.bool a', .bool b', .bool c', .bool d', .bool false], .int .i64 2] w fun x w' => x = .returned (.tuple #[.agg #[.bool a, .bool b, .bool c, .bool false, .bool false], .agg #[.bool a', .bool b', .bool c', .bool d', .bool false], .int .i64 7]) ∧ Below w.heap.size w w' := by
  have hx0 := heap_alloc_new w (.cells #[.bool a, .bool b, .bool c, .bool false, .bool false] 26)
  have hx1 := heap_alloc_new (w.alloc (.cells #[.bool a, .bool b, .bool c, .bool false, .bool false] 26)) (.cells #[.bool a', .bool b', .bool c', .bool d', .bool false] 26)
  replace hx0 := halloc hx0 (.cells #[.bool a', .bool b', .bool c', .bool d', .bool false] 26)
  have hx2 := heap_alloc_new ((w.alloc (.cells #[.bool a, .bool b, .bool c, .bool false, .bool false] 26)).alloc (.cells #[.bool a', .bool b', .bool c', .bool d', .bool false] 26)) (.cells #[.bool false, .bool false, .bool false, .bool false, .bool false] 26)
  replace hx0 := halloc hx0 (.cells #[.bool false, .bool false, .bool false, .bool false, .bool false] 26)
  replace hx1 := halloc hx1 (.cells #[.bool false, .bool false, .bool false, .bool false, .bool false] 26)
  have hx3 := heap_alloc_new (((w.alloc (.cells #[.bool a, .bool b, .bool c, .bool false, .bool false] 26)).alloc (.cells #[.bool a', .bool b', .bool c', .bool d', .bool false] 26)).alloc (.cells #[.bool false, .bool false, .bool false, .bool false, .bool false] 26)) (.cells #[.bool false, .bool false, .bool false, .bool false, .bool false] 26)
  replace hx0 := halloc hx0 (.cells #[.bool false, .bool false, .bool false, .bool false, .bool false] 26)
  replace hx1 := halloc hx1 (.cells #[.bool false, .bool false, .bool false, .bool false, .bool false] 26)
  replace hx2 := halloc hx2 (.cells #[.bool false, .bool false, .bool false, .bool false, .bool false] 26)
  simp only [size_alloc] at hx0 hx1 hx2 hx3
  have DD : Below w.heap.size w ((((w.alloc (.cells #[.bool a, .bool b, .bool c, .bool false, .bool false] 26)).alloc (.cells #[.bool a', .bool b', .bool c', .bool d', .bool false] 26)).alloc (.cells #[.bool false, .bool false, .bool false, .bool false, .bool false] 26)).alloc (.cells #[.bool false, .bool false, .bool false, .bool false, .bool false] 26)) := below_alloc0 (below_alloc0 (below_alloc0 (below_box _) _) _) _
  go_enter Try.func51, Try.ntmps51
  go_wp2_with fail
  with_reducible refine (re_ (refMayI_calls a b c false false a' b' c' d' false _) (ret_bool hf.out)).mono ?_
  rintro x w1 ⟨rfl, b1⟩
  have hy0 := hcall hx0 b1
  have hy1 := hcall hx1 b1
  have hy2 := hcall hx2 b1
  have hy3 := hcall hx3 b1
  have D := below_call DD b1
  have hz0 : w.heap.size + 1 + 1 + 1 + 1 ≤ w1.heap.size := by
    have := b1.size
    simp only [size_alloc] at this
    exact this
  clear b1 DD hx0 hx1 hx2 hx3
  obtain ⟨⟨p0, p1, p2, p3, p4⟩, ⟨pf0, pf1, pf2, pf3, pf4⟩, pz⟩ := iopen5 hy0
  have n1 : (w1.alloc (.cells #[.bool a, .bool b, .bool c, .bool false, .bool false] 26)).heap[w1.heap.size]? = some (.cells #[.bool a, .bool b, .bool c, .bool false, .bool false] 26) := heap_alloc_new _ _
  have s1 : (w1.alloc (.cells #[.bool a, .bool b, .bool c, .bool false, .bool false] 26)).heap[w.heap.size + 1]? = some (.cells #[.bool a', .bool b', .bool c', .bool d', .bool false] 26) := halloc hy1 (.cells #[.bool a, .bool b, .bool c, .bool false, .bool false] 26)
  obtain ⟨⟨s0, s1, s2, s3, s4⟩, ⟨sf0, sf1, sf2, sf3, sf4⟩, sz⟩ := iopen5 s1
  have m2 : ((w1.alloc (.cells #[.bool a, .bool b, .bool c, .bool false, .bool false] 26)).alloc (.cells #[.bool a', .bool b', .bool c', .bool d', .bool false] 26)).heap[w1.heap.size + 1]? = some (.cells #[.bool a', .bool b', .bool c', .bool d', .bool false] 26) := by
    have := heap_alloc_new (w1.alloc (.cells #[.bool a, .bool b, .bool c, .bool false, .bool false] 26)) (.cells #[.bool a', .bool b', .bool c', .bool d', .bool false] 26)
    simpa only [size_alloc] using this
  have p2 : ((w1.alloc (.cells #[.bool a, .bool b, .bool c, .bool false, .bool false] 26)).alloc (.cells #[.bool a', .bool b', .bool c', .bool d', .bool false] 26)).heap[w.heap.size]? = some (.cells #[.bool a, .bool b, .bool c, .bool false, .bool false] 26) := halloc (halloc hy0 (.cells #[.bool a, .bool b, .bool c, .bool false, .bool false] 26)) (.cells #[.bool a', .bool b', .bool c', .bool d', .bool false] 26)
  have s2 : ((w1.alloc (.cells #[.bool a, .bool b, .bool c, .bool false, .bool false] 26)).alloc (.cells #[.bool a', .bool b', .bool c', .bool d', .bool false] 26)).heap[w.heap.size + 1]? = some (.cells #[.bool a', .bool b', .bool c', .bool d', .bool false] 26) := halloc (halloc hy1 (.cells #[.bool a, .bool b, .bool c, .bool false, .bool false] 26)) (.cells #[.bool a', .bool b', .bool c', .bool d', .bool false] 26)
  have q2 : ((w1.alloc (.cells #[.bool a, .bool b, .bool c, .bool false, .bool false] 26)).alloc (.cells #[.bool a', .bool b', .bool c', .bool d', .bool false] 26)).heap[w.heap.size + 1 + 1]? = some (.cells #[.bool false, .bool false, .bool false, .bool false, .bool false] 26) := halloc (halloc hy2 (.cells #[.bool a, .bool b, .bool c, .bool false, .bool false] 26)) (.cells #[.bool a', .bool b', .bool c', .bool d', .bool false] 26)
  have r2 : ((w1.alloc (.cells #[.bool a, .bool b, .bool c, .bool false, .bool false] 26)).alloc (.cells #[.bool a', .bool b', .bool c', .bool d', .bool false] 26)).heap[w.heap.size + 1 + 1 + 1]? = some (.cells #[.bool false, .bool false, .bool false, .bool false, .bool false] 26) := halloc (halloc hy3 (.cells #[.bool a, .bool b, .bool c, .bool false, .bool false] 26)) (.cells #[.bool a', .bool b', .bool c', .bool d', .bool false] 26)
  have n2 : ((w1.alloc (.cells #[.bool a, .bool b, .bool c, .bool false, .bool false] 26)).alloc (.cells #[.bool a', .bool b', .bool c', .bool d', .bool false] 26)).heap[w1.heap.size]? = some (.cells #[.bool a, .bool b, .bool c, .bool false, .bool false] 26) := halloc n1 (.cells #[.bool a', .bool b', .bool c', .bool d', .bool false] 26)
  have D2 : Below w.heap.size w ((w1.alloc (.cells #[.bool a, .bool b, .bool c, .bool false, .bool false] 26)).alloc (.cells #[.bool a', .bool b', .bool c', .bool d', .bool false] 26)) := below_alloc0 (below_alloc0 D _) _
  obtain ⟨⟨pb0, pb1, pb2, pb3, pb4⟩, ⟨pbf0, pbf1, pbf2, pbf3, pbf4⟩, pbz⟩ := iopen5 p2
  obtain ⟨⟨sb0, sb1, sb2, sb3, sb4⟩, ⟨sbf0, sbf1, sbf2, sbf3, sbf4⟩, sbz⟩ := iopen5 s2
  obtain ⟨⟨qb0, qb1, qb2, qb3, qb4⟩, ⟨qbf0, qbf1, qbf2, qbf3, qbf4⟩, qbz⟩ := iopen5 q2
  obtain ⟨⟨rb0, rb1, rb2, rb3, rb4⟩, ⟨rbf0, rbf1, rbf2, rbf3, rbf4⟩, rbz⟩ := iopen5 r2
  go_wp2_with fail
  go_region
  all_goals (try go_wp2)
  all_goals (try simp only [Exit.inBlock, Exit.then])
  (refine bodyPost_cct rfl (w.heap.size + 1 + 1) (w.heap.size + 1 + 1 + 1) 26 26 #[.bool a, .bool b, .bool c, .bool false, .bool false] #[.bool a', .bool b', .bool c', .bool d', .bool false] (0, 0) (0, 0) _ rfl rfl ?_ ?_ Try.underlying26 rfl info_it5 rfl rfl ⟨?_, ?_⟩)
  · refine heap_drew' ?_
    exact (put5_ne (w := put5 ((w1.alloc (.cells #[.bool a, .bool b, .bool c, .bool false, .bool false] 26)).alloc (.cells #[.bool a', .bool b', .bool c', .bool d', .bool false] 26)) (w.heap.size + 1 + 1) a b c false false) (g := w.heap.size + 1 + 1 + 1) (k := w.heap.size + 1 + 1) a' b' c' d' false (by omega)).trans (put5_at a b c false false q2)
  · refine heap_drew' ?_
    exact put5_at (w := put5 ((w1.alloc (.cells #[.bool a, .bool b, .bool c, .bool false, .bool false] 26)).alloc (.cells #[.bool a', .bool b', .bool c', .bool d', .bool false] 26)) (w.heap.size + 1 + 1) a b c false false) (g := w.heap.size + 1 + 1 + 1) a' b' c' d' false ((put5_ne (w := ((w1.alloc (.cells #[.bool a, .bool b, .bool c, .bool false, .bool false] 26)).alloc (.cells #[.bool a', .bool b', .bool c', .bool d', .bool false] 26))) (g := w.heap.size + 1 + 1) (k := w.heap.size + 1 + 1 + 1) a b c false false (by omega)).trans r2)
  · rfl
  · exact (put5_below (put5_below D2 (w.heap.size + 1 + 1) (by omega) a b c false false) (w.heap.size + 1 + 1 + 1) (by omega) a' b' c' d' false).drew
set_option maxHeartbeats 16000000 in
set_option maxRecDepth 100000 in
theorem refact2_3 (a b c a' b' c' d' : Bool) (w : World) (hf : Hid (fitI ⟨a, b, c, true, false⟩ ⟨a', b', c', d', false⟩ = true)) :
    Calls Try.prog 51 #[.agg #[.bool a, .bool b, .bool c, .bool true, .bool false], .agg #[.bool a', .bool b', .bool c', .bool d', .bool false], .int .i64 2] w fun x w' => x = .returned (.tuple #[.agg #[.bool a, .bool true, .bool c, .bool false, .bool false], .agg #[.bool true, .bool b', .bool false, .bool d', .bool false], .int .i64 0]) ∧ Below w.heap.size w w' := by
  have hx0 := heap_alloc_new w (.cells #[.bool a, .bool b, .bool c, .bool true, .bool false] 26)
  have hx1 := heap_alloc_new (w.alloc (.cells #[.bool a, .bool b, .bool c, .bool true, .bool false] 26)) (.cells #[.bool a', .bool b', .bool c', .bool d', .bool false] 26)
  replace hx0 := halloc hx0 (.cells #[.bool a', .bool b', .bool c', .bool d', .bool false] 26)
  have hx2 := heap_alloc_new ((w.alloc (.cells #[.bool a, .bool b, .bool c, .bool true, .bool false] 26)).alloc (.cells #[.bool a', .bool b', .bool c', .bool d', .bool false] 26)) (.cells #[.bool false, .bool false, .bool false, .bool false, .bool false] 26)
  replace hx0 := halloc hx0 (.cells #[.bool false, .bool false, .bool false, .bool false, .bool false] 26)
  replace hx1 := halloc hx1 (.cells #[.bool false, .bool false, .bool false, .bool false, .bool false] 26)
  have hx3 := heap_alloc_new (((w.alloc (.cells #[.bool a, .bool b, .bool c, .bool true, .bool false] 26)).alloc (.cells #[.bool a', .bool b', .bool c', .bool d', .bool false] 26)).alloc (.cells #[.bool false, .bool false, .bool false, .bool false, .bool false] 26)) (.cells #[.bool false, .bool false, .bool false, .bool false, .bool false] 26)
  replace hx0 := halloc hx0 (.cells #[.bool false, .bool false, .bool false, .bool false, .bool false] 26)
  replace hx1 := halloc hx1 (.cells #[.bool false, .bool false, .bool false, .bool false, .bool false] 26)
  replace hx2 := halloc hx2 (.cells #[.bool false, .bool false, .bool false, .bool false, .bool false] 26)
  simp only [size_alloc] at hx0 hx1 hx2 hx3
  have DD : Below w.heap.size w ((((w.alloc (.cells #[.bool a, .bool b, .bool c, .bool true, .bool false] 26)).alloc (.cells #[.bool a', .bool b', .bool c', .bool d', .bool false] 26)).alloc (.cells #[.bool false, .bool false, .bool false, .bool false, .bool false] 26)).alloc (.cells #[.bool false, .bool false, .bool false, .bool false, .bool false] 26)) := below_alloc0 (below_alloc0 (below_alloc0 (below_box _) _) _) _
  go_enter Try.func51, Try.ntmps51
  go_wp2_with fail
  with_reducible refine (re_ (refMayI_calls a b c true false a' b' c' d' false _) (ret_bool hf.out)).mono ?_
  rintro x w1 ⟨rfl, b1⟩
  have hy0 := hcall hx0 b1
  have hy1 := hcall hx1 b1
  have hy2 := hcall hx2 b1
  have hy3 := hcall hx3 b1
  have D := below_call DD b1
  have hz0 : w.heap.size + 1 + 1 + 1 + 1 ≤ w1.heap.size := by
    have := b1.size
    simp only [size_alloc] at this
    exact this
  clear b1 DD hx0 hx1 hx2 hx3
  obtain ⟨⟨p0, p1, p2, p3, p4⟩, ⟨pf0, pf1, pf2, pf3, pf4⟩, pz⟩ := iopen5 hy0
  have n1 : (w1.alloc (.cells #[.bool a, .bool b, .bool c, .bool true, .bool false] 26)).heap[w1.heap.size]? = some (.cells #[.bool a, .bool b, .bool c, .bool true, .bool false] 26) := heap_alloc_new _ _
  have s1 : (w1.alloc (.cells #[.bool a, .bool b, .bool c, .bool true, .bool false] 26)).heap[w.heap.size + 1]? = some (.cells #[.bool a', .bool b', .bool c', .bool d', .bool false] 26) := halloc hy1 (.cells #[.bool a, .bool b, .bool c, .bool true, .bool false] 26)
  obtain ⟨⟨s0, s1, s2, s3, s4⟩, ⟨sf0, sf1, sf2, sf3, sf4⟩, sz⟩ := iopen5 s1
  have m2 : ((w1.alloc (.cells #[.bool a, .bool b, .bool c, .bool true, .bool false] 26)).alloc (.cells #[.bool a', .bool b', .bool c', .bool d', .bool false] 26)).heap[w1.heap.size + 1]? = some (.cells #[.bool a', .bool b', .bool c', .bool d', .bool false] 26) := by
    have := heap_alloc_new (w1.alloc (.cells #[.bool a, .bool b, .bool c, .bool true, .bool false] 26)) (.cells #[.bool a', .bool b', .bool c', .bool d', .bool false] 26)
    simpa only [size_alloc] using this
  have p2 : ((w1.alloc (.cells #[.bool a, .bool b, .bool c, .bool true, .bool false] 26)).alloc (.cells #[.bool a', .bool b', .bool c', .bool d', .bool false] 26)).heap[w.heap.size]? = some (.cells #[.bool a, .bool b, .bool c, .bool true, .bool false] 26) := halloc (halloc hy0 (.cells #[.bool a, .bool b, .bool c, .bool true, .bool false] 26)) (.cells #[.bool a', .bool b', .bool c', .bool d', .bool false] 26)
  have s2 : ((w1.alloc (.cells #[.bool a, .bool b, .bool c, .bool true, .bool false] 26)).alloc (.cells #[.bool a', .bool b', .bool c', .bool d', .bool false] 26)).heap[w.heap.size + 1]? = some (.cells #[.bool a', .bool b', .bool c', .bool d', .bool false] 26) := halloc (halloc hy1 (.cells #[.bool a, .bool b, .bool c, .bool true, .bool false] 26)) (.cells #[.bool a', .bool b', .bool c', .bool d', .bool false] 26)
  have q2 : ((w1.alloc (.cells #[.bool a, .bool b, .bool c, .bool true, .bool false] 26)).alloc (.cells #[.bool a', .bool b', .bool c', .bool d', .bool false] 26)).heap[w.heap.size + 1 + 1]? = some (.cells #[.bool false, .bool false, .bool false, .bool false, .bool false] 26) := halloc (halloc hy2 (.cells #[.bool a, .bool b, .bool c, .bool true, .bool false] 26)) (.cells #[.bool a', .bool b', .bool c', .bool d', .bool false] 26)
  have r2 : ((w1.alloc (.cells #[.bool a, .bool b, .bool c, .bool true, .bool false] 26)).alloc (.cells #[.bool a', .bool b', .bool c', .bool d', .bool false] 26)).heap[w.heap.size + 1 + 1 + 1]? = some (.cells #[.bool false, .bool false, .bool false, .bool false, .bool false] 26) := halloc (halloc hy3 (.cells #[.bool a, .bool b, .bool c, .bool true, .bool false] 26)) (.cells #[.bool a', .bool b', .bool c', .bool d', .bool false] 26)
  have n2 : ((w1.alloc (.cells #[.bool a, .bool b, .bool c, .bool true, .bool false] 26)).alloc (.cells #[.bool a', .bool b', .bool c', .bool d', .bool false] 26)).heap[w1.heap.size]? = some (.cells #[.bool a, .bool b, .bool c, .bool true, .bool false] 26) := halloc n1 (.cells #[.bool a', .bool b', .bool c', .bool d', .bool false] 26)
  have D2 : Below w.heap.size w ((w1.alloc (.cells #[.bool a, .bool b, .bool c, .bool true, .bool false] 26)).alloc (.cells #[.bool a', .bool b', .bool c', .bool d', .bool false] 26)) := below_alloc0 (below_alloc0 D _) _
  obtain ⟨⟨pb0, pb1, pb2, pb3, pb4⟩, ⟨pbf0, pbf1, pbf2, pbf3, pbf4⟩, pbz⟩ := iopen5 p2
  obtain ⟨⟨sb0, sb1, sb2, sb3, sb4⟩, ⟨sbf0, sbf1, sbf2, sbf3, sbf4⟩, sbz⟩ := iopen5 s2
  obtain ⟨⟨nb0, nb1, nb2, nb3, nb4⟩, ⟨nbf0, nbf1, nbf2, nbf3, nbf4⟩, nbz⟩ := iopen5 n2
  obtain ⟨⟨mb0, mb1, mb2, mb3, mb4⟩, ⟨mbf0, mbf1, mbf2, mbf3, mbf4⟩, mbz⟩ := iopen5 m2
  have n3 : ((w1.alloc (.cells #[.bool a, .bool true, .bool c, .bool false, .bool false] 26)).alloc (.cells #[.bool true, .bool b', .bool false, .bool d', .bool false] 26)).heap[w1.heap.size]? = some (.cells #[.bool a, .bool true, .bool c, .bool false, .bool false] 26) := halloc (heap_alloc_new _ _) (.cells #[.bool true, .bool b', .bool false, .bool d', .bool false] 26)
  have m3 : ((w1.alloc (.cells #[.bool a, .bool true, .bool c, .bool false, .bool false] 26)).alloc (.cells #[.bool true, .bool b', .bool false, .bool d', .bool false] 26)).heap[w1.heap.size + 1]? = some (.cells #[.bool true, .bool b', .bool false, .bool d', .bool false] 26) := by
    have := heap_alloc_new (w1.alloc (.cells #[.bool a, .bool true, .bool c, .bool false, .bool false] 26)) (.cells #[.bool true, .bool b', .bool false, .bool d', .bool false] 26)
    simpa only [size_alloc] using this
  have q3 : ((w1.alloc (.cells #[.bool a, .bool true, .bool c, .bool false, .bool false] 26)).alloc (.cells #[.bool true, .bool b', .bool false, .bool d', .bool false] 26)).heap[w.heap.size + 1 + 1]? = some (.cells #[.bool false, .bool false, .bool false, .bool false, .bool false] 26) := halloc (halloc hy2 (.cells #[.bool a, .bool true, .bool c, .bool false, .bool false] 26)) (.cells #[.bool true, .bool b', .bool false, .bool d', .bool false] 26)
  have r3 : ((w1.alloc (.cells #[.bool a, .bool true, .bool c, .bool false, .bool false] 26)).alloc (.cells #[.bool true, .bool b', .bool false, .bool d', .bool false] 26)).heap[w.heap.size + 1 + 1 + 1]? = some (.cells #[.bool false, .bool false, .bool false, .bool false, .bool false] 26) := halloc (halloc hy3 (.cells #[.bool a, .bool true, .bool c, .bool false, .bool false] 26)) (.cells #[.bool true, .bool b', .bool false, .bool d', .bool false] 26)
  have D3 : Below w.heap.size w ((w1.alloc (.cells #[.bool a, .bool true, .bool c, .bool false, .bool false] 26)).alloc (.cells #[.bool true, .bool b', .bool false, .bool d', .bool false] 26)) := below_alloc0 (below_alloc0 D _) _
  obtain ⟨⟨nd0, nd1, nd2, nd3, nd4⟩, ⟨ndf0, ndf1, ndf2, ndf3, ndf4⟩, ndz⟩ := iopen5 n3
  obtain ⟨⟨md0, md1, md2, md3, md4⟩, ⟨mdf0, mdf1, mdf2, mdf3, mdf4⟩, mdz⟩ := iopen5 m3
  obtain ⟨⟨qd0, qd1, qd2, qd3, qd4⟩, ⟨qdf0, qdf1, qdf2, qdf3, qdf4⟩, qdz⟩ := iopen5 q3
  obtain ⟨⟨rd0, rd1, rd2, rd3, rd4⟩, ⟨rdf0, rdf1, rdf2, rdf3, rdf4⟩, rdz⟩ := iopen5 r3
  go_wp2_with fail
  go_region
  all_goals (try go_wp2)
  all_goals (try simp only [Exit.inBlock, Exit.then])
  (refine bodyPost_cct rfl (w.heap.size + 1 + 1) (w.heap.size + 1 + 1 + 1) 26 26 #[.bool a, .bool true, .bool c, .bool false, .bool false] #[.bool true, .bool b', .bool false, .bool d', .bool false] (0, 0) (0, 0) _ rfl rfl ?_ ?_ Try.underlying26 rfl info_it5 rfl rfl ⟨?_, ?_⟩)
  · refine heap_drew' ?_
    exact (put5_ne (w := put5 ((w1.alloc (.cells #[.bool a, .bool true, .bool c, .bool false, .bool false] 26)).alloc (.cells #[.bool true, .bool b', .bool false, .bool d', .bool false] 26)) (w.heap.size + 1 + 1) a true c false false) (g := w.heap.size + 1 + 1 + 1) (k := w.heap.size + 1 + 1) true b' false d' false (by omega)).trans (put5_at a true c false false q3)
  · refine heap_drew' ?_
    exact put5_at (w := put5 ((w1.alloc (.cells #[.bool a, .bool true, .bool c, .bool false, .bool false] 26)).alloc (.cells #[.bool true, .bool b', .bool false, .bool d', .bool false] 26)) (w.heap.size + 1 + 1) a true c false false) (g := w.heap.size + 1 + 1 + 1) true b' false d' false ((put5_ne (w := ((w1.alloc (.cells #[.bool a, .bool true, .bool c, .bool false, .bool false] 26)).alloc (.cells #[.bool true, .bool b', .bool false, .bool d', .bool false] 26))) (g := w.heap.size + 1 + 1) (k := w.heap.size + 1 + 1 + 1) a true c false false (by omega)).trans r3)
  · rfl
  · exact (put5_below (put5_below D3 (w.heap.size + 1 + 1) (by omega) a true c false false) (w.heap.size + 1 + 1 + 1) (by omega) true b' false d' false).drew
set_option maxHeartbeats 16000000 in
set_option maxRecDepth 100000 in
theorem refact3_0 (b d e a' b' c' d' e' : Bool) (w : World) (hf : Hid (fitI ⟨false, b, false, d, e⟩ ⟨a', b', c', d', e'⟩ = true)) :
    Calls Try.prog 51 #[.agg #[.bool false, .bool b, .bool false, .bool d, .bool e], .agg #[.bool a', .bool b', .bool c', .bool d', .bool e'], .int .i64 3] w fun x w' => x = .returned (.tuple #[.agg #[.bool false, .bool b, .bool false, .bool d, .bool e], .agg #[.bool a', .bool b', .bool c', .bool d', .bool e'], .int .i64 7]) ∧ Below w.heap.size w w' := by
  have hx0 := heap_alloc_new w (.cells #[.bool false, .bool b, .bool false, .bool d, .bool e] 26)
  have hx1 := heap_alloc_new (w.alloc (.cells #[.bool false, .bool b, .bool false, .bool d, .bool e] 26)) (.cells #[.bool a', .bool b', .bool c', .bool d', .bool e'] 26)
  replace hx0 := halloc hx0 (.cells #[.bool a', .bool b', .bool c', .bool d', .bool e'] 26)
  have hx2 := heap_alloc_new ((w.alloc (.cells #[.bool false, .bool b, .bool false, .bool d, .bool e] 26)).alloc (.cells #[.bool a', .bool b', .bool c', .bool d', .bool e'] 26)) (.cells #[.bool false, .bool false, .bool false, .bool false, .bool false] 26)
  replace hx0 := halloc hx0 (.cells #[.bool false, .bool false, .bool false, .bool false, .bool false] 26)
  replace hx1 := halloc hx1 (.cells #[.bool false, .bool false, .bool false, .bool false, .bool false] 26)
  have hx3 := heap_alloc_new (((w.alloc (.cells #[.bool false, .bool b, .bool false, .bool d, .bool e] 26)).alloc (.cells #[.bool a', .bool b', .bool c', .bool d', .bool e'] 26)).alloc (.cells #[.bool false, .bool false, .bool false, .bool false, .bool false] 26)) (.cells #[.bool false, .bool false, .bool false, .bool false, .bool false] 26)
  replace hx0 := halloc hx0 (.cells #[.bool false, .bool false, .bool false, .bool false, .bool false] 26)
  replace hx1 := halloc hx1 (.cells #[.bool false, .bool false, .bool false, .bool false, .bool false] 26)
  replace hx2 := halloc hx2 (.cells #[.bool false, .bool false, .bool false, .bool false, .bool false] 26)
  simp only [size_alloc] at hx0 hx1 hx2 hx3
  have DD : Below w.heap.size w ((((w.alloc (.cells #[.bool false, .bool b, .bool false, .bool d, .bool e] 26)).alloc (.cells #[.bool a', .bool b', .bool c', .bool d', .bool e'] 26)).alloc (.cells #[.bool false, .bool false, .bool false, .bool false, .bool false] 26)).alloc (.cells #[.bool false, .bool false, .bool false, .bool false, .bool false] 26)) := below_alloc0 (below_alloc0 (below_alloc0 (below_box _) _) _) _
  go_enter Try.func51, Try.ntmps51
  go_wp2_with fail
  with_reducible refine (re_ (refMayI_calls false b false d e a' b' c' d' e' _) (ret_bool hf.out)).mono ?_
  rintro x w1 ⟨rfl, b1⟩
  have hy0 := hcall hx0 b1
  have hy1 := hcall hx1 b1
  have hy2 := hcall hx2 b1
  have hy3 := hcall hx3 b1
  have D := below_call DD b1
  have hz0 : w.heap.size + 1 + 1 + 1 + 1 ≤ w1.heap.size := by
    have := b1.size
    simp only [size_alloc] at this
    exact this
  clear b1 DD hx0 hx1 hx2 hx3
  obtain ⟨⟨p0, p1, p2, p3, p4⟩, ⟨pf0, pf1, pf2, pf3, pf4⟩, pz⟩ := iopen5 hy0
  have n1 : (w1.alloc (.cells #[.bool false, .bool b, .bool false, .bool d, .bool e] 26)).heap[w1.heap.size]? = some (.cells #[.bool false, .bool b, .bool false, .bool d, .bool e] 26) := heap_alloc_new _ _
  have s1 : (w1.alloc (.cells #[.bool false, .bool b, .bool false, .bool d, .bool e] 26)).heap[w.heap.size + 1]? = some (.cells #[.bool a', .bool b', .bool c', .bool d', .bool e'] 26) := halloc hy1 (.cells #[.bool false, .bool b, .bool false, .bool d, .bool e] 26)
  obtain ⟨⟨s0, s1, s2, s3, s4⟩, ⟨sf0, sf1, sf2, sf3, sf4⟩, sz⟩ := iopen5 s1
  have m2 : ((w1.alloc (.cells #[.bool false, .bool b, .bool false, .bool d, .bool e] 26)).alloc (.cells #[.bool a', .bool b', .bool c', .bool d', .bool e'] 26)).heap[w1.heap.size + 1]? = some (.cells #[.bool a', .bool b', .bool c', .bool d', .bool e'] 26) := by
    have := heap_alloc_new (w1.alloc (.cells #[.bool false, .bool b, .bool false, .bool d, .bool e] 26)) (.cells #[.bool a', .bool b', .bool c', .bool d', .bool e'] 26)
    simpa only [size_alloc] using this
  have p2 : ((w1.alloc (.cells #[.bool false, .bool b, .bool false, .bool d, .bool e] 26)).alloc (.cells #[.bool a', .bool b', .bool c', .bool d', .bool e'] 26)).heap[w.heap.size]? = some (.cells #[.bool false, .bool b, .bool false, .bool d, .bool e] 26) := halloc (halloc hy0 (.cells #[.bool false, .bool b, .bool false, .bool d, .bool e] 26)) (.cells #[.bool a', .bool b', .bool c', .bool d', .bool e'] 26)
  have s2 : ((w1.alloc (.cells #[.bool false, .bool b, .bool false, .bool d, .bool e] 26)).alloc (.cells #[.bool a', .bool b', .bool c', .bool d', .bool e'] 26)).heap[w.heap.size + 1]? = some (.cells #[.bool a', .bool b', .bool c', .bool d', .bool e'] 26) := halloc (halloc hy1 (.cells #[.bool false, .bool b, .bool false, .bool d, .bool e] 26)) (.cells #[.bool a', .bool b', .bool c', .bool d', .bool e'] 26)
  have q2 : ((w1.alloc (.cells #[.bool false, .bool b, .bool false, .bool d, .bool e] 26)).alloc (.cells #[.bool a', .bool b', .bool c', .bool d', .bool e'] 26)).heap[w.heap.size + 1 + 1]? = some (.cells #[.bool false, .bool false, .bool false, .bool false, .bool false] 26) := halloc (halloc hy2 (.cells #[.bool false, .bool b, .bool false, .bool d, .bool e] 26)) (.cells #[.bool a', .bool b', .bool c', .bool d', .bool e'] 26)
  have r2 : ((w1.alloc (.cells #[.bool false, .bool b, .bool false, .bool d, .bool e] 26)).alloc (.cells #[.bool a', .bool b', .bool c', .bool d', .bool e'] 26)).heap[w.heap.size + 1 + 1 + 1]? = some (.cells #[.bool false, .bool false, .bool false, .bool false, .bool false] 26) := halloc (halloc hy3 (.cells #[.bool false, .bool b, .bool false, .bool d, .bool e] 26)) (.cells #[.bool a', .bool b', .bool c', .bool d', .bool e'] 26)
  have n2 : ((w1.alloc (.cells #[.bool false, .bool b, .bool false, .bool d, .bool e] 26)).alloc (.cells #[.bool a', .bool b', .bool c', .bool d', .bool e'] 26)).heap[w1.heap.size]? = some (.cells #[.bool false, .bool b, .bool false, .bool d, .bool e] 26) := halloc n1 (.cells #[.bool a', .bool b', .bool c', .bool d', .bool e'] 26)
  have D2 : Below w.heap.size w ((w1.alloc (.cells #[.bool false, .bool b, .bool false, .bool d, .bool e] 26)).alloc (.cells #[.bool a', .bool b', .bool c', .bool d', .bool e'] 26)) := below_alloc0 (below_alloc0 D _) _
  obtain ⟨⟨pb0, pb1, pb2, pb3, pb4⟩, ⟨pbf0, pbf1, pbf2, pbf3, pbf4⟩, pbz⟩ := iopen5 p2
  obtain ⟨⟨sb0, sb1, sb2, sb3, sb4⟩, ⟨sbf0, sbf1, sbf2, sbf3, sbf4⟩, sbz⟩ := iopen5 s2
  obtain ⟨⟨qb0, qb1, qb2, qb3, qb4⟩, ⟨qbf0, qbf1, qbf2, qbf3, qbf4⟩, qbz⟩ := iopen5 q2
  obtain ⟨⟨rb0, rb1, rb2, rb3, rb4⟩, ⟨rbf0, rbf1, rbf2, rbf3, rbf4⟩, rbz⟩ := iopen5 r2
  go_wp2_with fail
  go_region
  all_goals (try go_wp2)
  all_goals (try simp only [Exit.inBlock, Exit.then])
  (refine bodyPost_cct rfl (w.heap.size + 1 + 1) (w.heap.size + 1 + 1 + 1) 26 26 #[.bool false, .bool b, .bool false, .bool d, .bool e] #[.bool a', .bool b', .bool c', .bool d', .bool e'] (0, 0) (0, 0) _ rfl rfl ?_ ?_ Try.underlying26 rfl info_it5 rfl rfl ⟨?_, ?_⟩)
  · refine heap_drew' ?_
    exact (put5_ne (w := put5 ((w1.alloc (.cells #[.bool false, .bool b, .bool false, .bool d, .bool e] 26)).alloc (.cells #[.bool a', .bool b', .bool c', .bool d', .bool e'] 26)) (w.heap.size + 1 + 1) false b false d e) (g := w.heap.size + 1 + 1 + 1) (k := w.heap.size + 1 + 1) a' b' c' d' e' (by omega)).trans (put5_at false b false d e q2)
  · refine heap_drew' ?_
    exact put5_at (w := put5 ((w1.alloc (.cells #[.bool false, .bool b, .bool false, .bool d, .bool e] 26)).alloc (.cells #[.bool a', .bool b', .bool c', .bool d', .bool e'] 26)) (w.heap.size + 1 + 1) false b false d e) (g := w.heap.size + 1 + 1 + 1) a' b' c' d' e' ((put5_ne (w := ((w1.alloc (.cells #[.bool false, .bool b, .bool false, .bool d, .bool e] 26)).alloc (.cells #[.bool a', .bool b', .bool c', .bool d', .bool e'] 26))) (g := w.heap.size + 1 + 1) (k := w.heap.size + 1 + 1 + 1) false b false d e (by omega)).trans r2)
  · rfl
  · exact (put5_below (put5_below D2 (w.heap.size + 1 + 1) (by omega) false b false d e) (w.heap.size + 1 + 1 + 1) (by omega) a' b' c' d' e').drew
set_option maxHeartbeats 16000000 in
set_option maxRecDepth 100000 in
theorem refact3_1 (b c d e a' b' c' d' e' : Bool) (w : World) (hf : Hid (fitI ⟨true, b, c, d, e⟩ ⟨a', b', c', d', e'⟩ = true)) :
    Calls Try.prog 51 #[.agg #[.bool true, .bool b, .bool c, .bool d, .bool e], .agg #[.bool a', .bool b', .bool c', .bool d', .bool e'], .int .i64 3] w fun x w' => x = .returned (.tuple #[.agg #[.bool false, .bool b, .bool false, .bool d, .bool e], .agg #[.bool a', .bool false, .bool c', .bool false, .bool e'], .int .i64 0]) ∧ Below w.heap.size w w' := by
  have hx0 := heap_alloc_new w (.cells #[.bool true, .bool b, .bool c, .bool d, .bool e] 26)
  have hx1 := heap_alloc_new (w.alloc (.cells #[.bool true, .bool b, .bool c, .bool d, .bool e] 26)) (.cells #[.bool a', .bool b', .bool c', .bool d', .bool e'] 26)
  replace hx0 := halloc hx0 (.cells #[.bool a', .bool b', .bool c', .bool d', .bool e'] 26)
  have hx2 := heap_alloc_new ((w.alloc (.cells #[.bool true, .bool b, .bool c, .bool d, .bool e] 26)).alloc (.cells #[.bool a', .bool b', .bool c', .bool d', .bool e'] 26)) (.cells #[.bool false, .bool false, .bool false, .bool false, .bool false] 26)
  replace hx0 := halloc hx0 (.cells #[.bool false, .bool false, .bool false, .bool false, .bool false] 26)
  replace hx1 := halloc hx1 (.cells #[.bool false, .bool false, .bool false, .bool false, .bool false] 26)
  have hx3 := heap_alloc_new (((w.alloc (.cells #[.bool true, .bool b, .bool c, .bool d, .bool e] 26)).alloc (.cells #[.bool a', .bool b', .bool c', .bool d', .bool e'] 26)).alloc (.cells #[.bool false, .bool false, .bool false, .bool false, .bool false] 26)) (.cells #[.bool false, .bool false, .bool false, .bool false, .bool false] 26)
  replace hx0 := halloc hx0 (.cells #[.bool false, .bool false, .bool false, .bool false, .bool false] 26)
  replace hx1 := halloc hx1 (.cells #[.bool false, .bool false, .bool false, .bool false, .bool false] 26)
  replace hx2 := halloc hx2 (.cells #[.bool false, .bool false, .bool false, .bool false, .bool false] 26)
  simp only [size_alloc] at hx0 hx1 hx2 hx3
  have DD : Below w.heap.size w ((((w.alloc (.cells #[.bool true, .bool b, .bool c, .bool d, .bool e] 26)).alloc (.cells #[.bool a', .bool b', .bool c', .bool d', .bool e'] 26)).alloc (.cells #[.bool false, .bool false, .bool false, .bool false, .bool false] 26)).alloc (.cells #[.bool false, .bool false, .bool false, .bool false, .bool false] 26)) := below_alloc0 (below_alloc0 (below_alloc0 (below_box _) _) _) _
  go_enter Try.func51, Try.ntmps51
  go_wp2_with fail
  with_reducible refine (re_ (refMayI_calls true b c d e a' b' c' d' e' _) (ret_bool hf.out)).mono ?_
  rintro x w1 ⟨rfl, b1⟩
  have hy0 := hcall hx0 b1
  have hy1 := hcall hx1 b1
  have hy2 := hcall hx2 b1
  have hy3 := hcall hx3 b1
  have D := below_call DD b1
  have hz0 : w.heap.size + 1 + 1 + 1 + 1 ≤ w1.heap.size := by
    have := b1.size
    simp only [size_alloc] at this
    exact this
  clear b1 DD hx0 hx1 hx2 hx3
  obtain ⟨⟨p0, p1, p2, p3, p4⟩, ⟨pf0, pf1, pf2, pf3, pf4⟩, pz⟩ := iopen5 hy0
  have n1 : (w1.alloc (.cells #[.bool true, .bool b, .bool c, .bool d, .bool e] 26)).heap[w1.heap.size]? = some (.cells #[.bool true, .bool b, .bool c, .bool d, .bool e] 26) := heap_alloc_new _ _
  have s1 : (w1.alloc (.cells #[.bool true, .bool b, .bool c, .bool d, .bool e] 26)).heap[w.heap.size + 1]? = some (.cells #[.bool a', .bool b', .bool c', .bool d', .bool e'] 26) := halloc hy1 (.cells #[.bool true, .bool b, .bool c, .bool d, .bool e] 26)
  obtain ⟨⟨s0, s1, s2, s3, s4⟩, ⟨sf0, sf1, sf2, sf3, sf4⟩, sz⟩ := iopen5 s1
  have m2 : ((w1.alloc (.cells #[.bool true, .bool b, .bool c, .bool d, .bool e] 26)).alloc (.cells #[.bool a', .bool b', .bool c', .bool d', .bool e'] 26)).heap[w1.heap.size + 1]? = some (.cells #[.bool a', .bool b', .bool c', .bool d', .bool e'] 26) := by
    have := heap_alloc_new (w1.alloc (.cells #[.bool true, .bool b, .bool c, .bool d, .bool e] 26)) (.cells #[.bool a', .bool b', .bool c', .bool d', .bool e'] 26)
    simpa only [size_alloc] using this
  have p2 : ((w1.alloc (.cells #[.bool true, .bool b, .bool c, .bool d, .bool e] 26)).alloc (.cells #[.bool a', .bool b', .bool c', .bool d', .bool e'] 26)).heap[w.heap.size]? = some (.cells #[.bool true, .bool b, .bool c, .bool d, .bool e] 26) := halloc (halloc hy0 (.cells #[.bool true, .bool b, .bool c, .bool d, .bool e] 26)) (.cells #[.bool a', .bool b', .bool c', .bool d', .bool e'] 26)
  have s2 : ((w1.alloc (.cells #[.bool true, .bool b, .bool c, .bool d, .bool e] 26)).alloc (.cells #[.bool a', .bool b', .bool c', .bool d', .bool e'] 26)).heap[w.heap.size + 1]? = some (.cells #[.bool a', .bool b', .bool c', .bool d', .bool e'] 26) := halloc (halloc hy1 (.cells #[.bool true, .bool b, .bool c, .bool d, .bool e] 26)) (.cells #[.bool a', .bool b', .bool c', .bool d', .bool e'] 26)
  have q2 : ((w1.alloc (.cells #[.bool true, .bool b, .bool c, .bool d, .bool e] 26)).alloc (.cells #[.bool a', .bool b', .bool c', .bool d', .bool e'] 26)).heap[w.heap.size + 1 + 1]? = some (.cells #[.bool false, .bool false, .bool false, .bool false, .bool false] 26) := halloc (halloc hy2 (.cells #[.bool true, .bool b, .bool c, .bool d, .bool e] 26)) (.cells #[.bool a', .bool b', .bool c', .bool d', .bool e'] 26)
  have r2 : ((w1.alloc (.cells #[.bool true, .bool b, .bool c, .bool d, .bool e] 26)).alloc (.cells #[.bool a', .bool b', .bool c', .bool d', .bool e'] 26)).heap[w.heap.size + 1 + 1 + 1]? = some (.cells #[.bool false, .bool false, .bool false, .bool false, .bool false] 26) := halloc (halloc hy3 (.cells #[.bool true, .bool b, .bool c, .bool d, .bool e] 26)) (.cells #[.bool a', .bool b', .bool c', .bool d', .bool e'] 26)
  have n2 : ((w1.alloc (.cells #[.bool true, .bool b, .bool c, .bool d, .bool e] 26)).alloc (.cells #[.bool a', .bool b', .bool c', .bool d', .bool e'] 26)).heap[w1.heap.size]? = some (.cells #[.bool true, .bool b, .bool c, .bool d, .bool e] 26) := halloc n1 (.cells #[.bool a', .bool b', .bool c', .bool d', .bool e'] 26)
  have D2 : Below w.heap.size w ((w1.alloc (.cells #[.bool true, .bool b, .bool c, .bool d, .bool e] 26)).alloc (.cells #[.bool a', .bool b', .bool c', .bool d', .bool e'] 26)) := below_alloc0 (below_alloc0 D _) _
  obtain ⟨⟨pb0, pb1, pb2, pb3, pb4⟩, ⟨pbf0, pbf1, pbf2, pbf3, pbf4⟩, pbz⟩ := iopen5 p2
  obtain ⟨⟨sb0, sb1, sb2, sb3, sb4⟩, ⟨sbf0, sbf1, sbf2, sbf3, sbf4⟩, sbz⟩ := iopen5 s2
  obtain ⟨⟨nb0, nb1, nb2, nb3, nb4⟩, ⟨nbf0, nbf1, nbf2, nbf3, nbf4⟩, nbz⟩ := iopen5 n2
  obtain ⟨⟨mb0, mb1, mb2, mb3, mb4⟩, ⟨mbf0, mbf1, mbf2, mbf3, mbf4⟩, mbz⟩ := iopen5 m2
  have n3 : ((w1.alloc (.cells #[.bool false, .bool b, .bool false, .bool d, .bool e] 26)).alloc (.cells #[.bool a', .bool false, .bool c', .bool false, .bool e'] 26)).heap[w1.heap.size]? = some (.cells #[.bool false, .bool b, .bool false, .bool d, .bool e] 26) := halloc (heap_alloc_new _ _) (.cells #[.bool a', .bool false, .bool c', .bool false, .bool e'] 26)
  have m3 : ((w1.alloc (.cells #[.bool false, .bool b, .bool false, .bool d, .bool e] 26)).alloc (.cells #[.bool a', .bool false, .bool c', .bool false, .bool e'] 26)).heap[w1.heap.size + 1]? = some (.cells #[.bool a', .bool false, .bool c', .bool false, .bool e'] 26) := by
    have := heap_alloc_new (w1.alloc (.cells #[.bool false, .bool b, .bool false, .bool d, .bool e] 26)) (.cells #[.bool a', .bool false, .bool c', .bool false, .bool e'] 26)
    simpa only [size_alloc] using this
  have q3 : ((w1.alloc (.cells #[.bool false, .bool b, .bool false, .bool d, .bool e] 26)).alloc (.cells #[.bool a', .bool false, .bool c', .bool false, .bool e'] 26)).heap[w.heap.size + 1 + 1]? = some (.cells #[.bool false, .bool false, .bool false, .bool false, .bool false] 26) := halloc (halloc hy2 (.cells #[.bool false, .bool b, .bool false, .bool d, .bool e] 26)) (.cells #[.bool a', .bool false, .bool c', .bool false, .bool e'] 26)
  have r3 : ((w1.alloc (.cells #[.bool false, .bool b, .bool false, .bool d, .bool e] 26)).alloc (.cells #[.bool a', .bool false, .bool c', .bool false, .bool e'] 26)).heap[w.heap.size + 1 + 1 + 1]? = some (.cells #[.bool false, .bool false, .bool false, .bool false, .bool false] 26) := halloc (halloc hy3 (.cells #[.bool false, .bool b, .bool false, .bool d, .bool e] 26)) (.cells #[.bool a', .bool false, .bool c', .bool false, .bool e'] 26)
  have D3 : Below w.heap.size w ((w1.alloc (.cells #[.bool false, .bool b, .bool false, .bool d, .bool e] 26)).alloc (.cells #[.bool a', .bool false, .bool c', .bool false, .bool e'] 26)) := below_alloc0 (below_alloc0 D _) _
  obtain ⟨⟨nd0, nd1, nd2, nd3, nd4⟩, ⟨ndf0, ndf1, ndf2, ndf3, ndf4⟩, ndz⟩ := iopen5 n3
  obtain ⟨⟨md0, md1, md2, md3, md4⟩, ⟨mdf0, mdf1, mdf2, mdf3, mdf4⟩, mdz⟩ := iopen5 m3
  obtain ⟨⟨qd0, qd1, qd2, qd3, qd4⟩, ⟨qdf0, qdf1, qdf2, qdf3, qdf4⟩, qdz⟩ := iopen5 q3
  obtain ⟨⟨rd0, rd1, rd2, rd3, rd4⟩, ⟨rdf0, rdf1, rdf2, rdf3, rdf4⟩, rdz⟩ := iopen5 r3
  go_wp2_with fail
  go_region
  all_goals (try go_wp2)
  all_goals (try simp only [Exit.inBlock, Exit.then])
  (refine bodyPost_cct rfl (w.heap.size + 1 + 1) (w.heap.size + 1 + 1 + 1) 26 26 #[.bool false, .bool b, .bool false, .bool d, .bool e] #[.bool a', .bool false, .bool c', .bool false, .bool e'] (0, 0) (0, 0) _ rfl rfl ?_ ?_ Try.underlying26 rfl info_it5 rfl rfl ⟨?_, ?_⟩)
  · refine heap_drew' ?_
    exact (put5_ne (w := put5 ((w1.alloc (.cells #[.bool false, .bool b, .bool false, .bool d, .bool e] 26)).alloc (.cells #[.bool a', .bool false, .bool c', .bool false, .bool e'] 26)) (w.heap.size + 1 + 1) false b false d e) (g := w.heap.size + 1 + 1 + 1) (k := w.heap.size + 1 + 1) a' false c' false e' (by omega)).trans (put5_at false b false d e q3)
  · refine heap_drew' ?_
    exact put5_at (w := put5 ((w1.alloc (.cells #[.bool false, .bool b, .bool false, .bool d, .bool e] 26)).alloc (.cells #[.bool a', .bool false, .bool c', .bool false, .bool e'] 26)) (w.heap.size + 1 + 1) false b false d e) (g := w.heap.size + 1 + 1 + 1) a' false c' false e' ((put5_ne (w := ((w1.alloc (.cells #[.bool false, .bool b, .bool false, .bool d, .bool e] 26)).alloc (.cells #[.bool a', .bool false, .bool c', .bool false, .bool e'] 26))) (g := w.heap.size + 1 + 1) (k := w.heap.size + 1 + 1 + 1) false b false d e (by omega)).trans r3)
  · rfl
  · exact (put5_below (put5_below D3 (w.heap.size + 1 + 1) (by omega) false b false d e) (w.heap.size + 1 + 1 + 1) (by omega) a' false c' false e').drew
set_option maxHeartbeats 16000000 in
set_option maxRecDepth 100000 in
theorem refact3_2 (b d e a' b' c' d' e' : Bool) (w : World) (hf : Hid (fitI ⟨false, b, true, d, e⟩ ⟨a', b', c', d', e'⟩ = true)) :
    Calls Try.prog 51 #[.agg #[.bool false, .bool b, .bool true, .bool d, .bool e], .agg #[.bool a', .bool b', .bool c', .bool d', .bool e'], .int .i64 3] w fun x w' => x = .returned (.tuple #[.agg #[.bool false, .bool b, .bool false, .bool d, .bool e], .agg #[.bool a', .bool false, .bool c', .bool false, .bool e'], .int .i64 0]) ∧ Below w.heap.size w w' := by
  have hx0 := heap_alloc_new w (.cells #[.bool false, .bool b, .bool true, .bool d, .bool e] 26)
  have hx1 := heap_alloc_new (w.alloc (.cells #[.bool false, .bool b, .bool true, .bool d, .bool e] 26)) (.cells #[.bool a', .bool b', .bool c', .bool d', .bool e'] 26)
  replace hx0 := halloc hx0 (.cells #[.bool a', .bool b', .bool c', .bool d', .bool e'] 26)
  have hx2 := heap_alloc_new ((w.alloc (.cells #[.bool false, .bool b, .bool true, .bool d, .bool e] 26)).alloc (.cells #[.bool a', .bool b', .bool c', .bool d', .bool e'] 26)) (.cells #[.bool false, .bool false, .bool false, .bool false, .bool false] 26)
  replace hx0 := halloc hx0 (.cells #[.bool false, .bool false, .bool false, .bool false, .bool false] 26)
  replace hx1 := halloc hx1 (.cells #[.bool false, .bool false, .bool false, .bool false, .bool false] 26)
  have hx3 := heap_alloc_new (((w.alloc (.cells #[.bool false, .bool b, .bool true, .bool d, .bool e] 26)).alloc (.cells #[.bool a', .bool b', .bool c', .bool d', .bool e'] 26)).alloc (.cells #[.bool false, .bool false, .bool false, .bool false, .bool false] 26)) (.cells #[.bool false, .bool false, .bool false, .bool false, .bool false] 26)
  replace hx0 := halloc hx0 (.cells #[.bool false, .bool false, .bool false, .bool false, .bool false] 26)
  replace hx1 := halloc hx1 (.cells #[.bool false, .bool false, .bool false, .bool false, .bool false] 26)
  replace hx2 := halloc hx2 (.cells #[.bool false, .bool false, .bool false, .bool false, .bool false] 26)
  simp only [size_alloc] at hx0 hx1 hx2 hx3
  have DD : Below w.heap.size w ((((w.alloc (.cells #[.bool false, .bool b, .bool true, .bool d, .bool e] 26)).alloc (.cells #[.bool a', .bool b', .bool c', .bool d', .bool e'] 26)).alloc (.cells #[.bool false, .bool false, .bool false, .bool false, .bool false] 26)).alloc (.cells #[.bool false, .bool false, .bool false, .bool false, .bool false] 26)) := below_alloc0 (below_alloc0 (below_alloc0 (below_box _) _) _) _
  go_enter Try.func51, Try.ntmps51
  go_wp2_with fail
  with_reducible refine (re_ (refMayI_calls false b true d e a' b' c' d' e' _) (ret_bool hf.out)).mono ?_
  rintro x w1 ⟨rfl, b1⟩
  have hy0 := hcall hx0 b1
  have hy1 := hcall hx1 b1
  have hy2 := hcall hx2 b1
  have hy3 := hcall hx3 b1
  have D := below_call DD b1
  have hz0 : w.heap.size + 1 + 1 + 1 + 1 ≤ w1.heap.size := by
    have := b1.size
    simp only [size_alloc] at this
    exact this
  clear b1 DD hx0 hx1 hx2 hx3
  obtain ⟨⟨p0, p1, p2, p3, p4⟩, ⟨pf0, pf1, pf2, pf3, pf4⟩, pz⟩ := iopen5 hy0
  have n1 : (w1.alloc (.cells #[.bool false, .bool b, .bool true, .bool d, .bool e] 26)).heap[w1.heap.size]? = some (.cells #[.bool false, .bool b, .bool true, .bool d, .bool e] 26) := heap_alloc_new _ _
  have s1 : (w1.alloc (.cells #[.bool false, .bool b, .bool true, .bool d, .bool e] 26)).heap[w.heap.size + 1]? = some (.cells #[.bool a', .bool b', .bool c', .bool d', .bool e'] 26) := halloc hy1 (.cells #[.bool false, .bool b, .bool true, .bool d, .bool e] 26)
  obtain ⟨⟨s0, s1, s2, s3, s4⟩, ⟨sf0, sf1, sf2, sf3, sf4⟩, sz⟩ := iopen5 s1
  have m2 : ((w1.alloc (.cells #[.bool false, .bool b, .bool true, .bool d, .bool e] 26)).alloc (.cells #[.bool a', .bool b', .bool c', .bool d', .bool e'] 26)).heap[w1.heap.size + 1]? = some (.cells #[.bool a', .bool b', .bool c', .bool d', .bool e'] 26) := by
    have := heap_alloc_new (w1.alloc (.cells #[.bool false, .bool b, .bool true, .bool d, .bool e] 26)) (.cells #[.bool a', .bool b', .bool c', .bool d', .bool e'] 26)
    simpa only [size_alloc] using this
  have p2 : ((w1.alloc (.cells #[.bool false, .bool b, .bool true, .bool d, .bool e] 26)).alloc (.cells #[.bool a', .bool b', .bool c', .bool d', .bool e'] 26)).heap[w.heap.size]? = some (.cells #[.bool false, .bool b, .bool true, .bool d, .bool e] 26) := halloc (halloc hy0 (.cells #[.bool false, .bool b, .bool true, .bool d, .bool e] 26)) (.cells #[.bool a', .bool b', .bool c', .bool d', .bool e'] 26)
  have s2 : ((w1.alloc (.cells #[.bool false, .bool b, .bool true, .bool d, .bool e] 26)).alloc (.cells #[.bool a', .bool b', .bool c', .bool d', .bool e'] 26)).heap[w.heap.size + 1]? = some (.cells #[.bool a', .bool b', .bool c', .bool d', .bool e'] 26) := halloc (halloc hy1 (.cells #[.bool false, .bool b, .bool true, .bool d, .bool e] 26)) (.cells #[.bool a', .bool b', .bool c', .bool d', .bool e'] 26)
  have q2 : ((w1.alloc (.cells #[.bool false, .bool b, .bool true, .bool d, .bool e] 26)).alloc (.cells #[.bool a', .bool b', .bool c', .bool d', .bool e'] 26)).heap[w.heap.size + 1 + 1]? = some (.cells #[.bool false, .bool false, .bool false, .bool false, .bool false] 26) := halloc (halloc hy2 (.cells #[.bool false, .bool b, .bool true, .bool d, .bool e] 26)) (.cells #[.bool a', .bool b', .bool c', .bool d', .bool e'] 26)
  have r2 : ((w1.alloc (.cells #[.bool false, .bool b, .bool true, .bool d, .bool e] 26)).alloc (.cells #[.bool a', .bool b', .bool c', .bool d', .bool e'] 26)).heap[w.heap.size + 1 + 1 + 1]? = some (.cells #[.bool false, .bool false, .bool false, .bool false, .bool false] 26) := halloc (halloc hy3 (.cells #[.bool false, .bool b, .bool true, .bool d, .bool e] 26)) (.cells #[.bool a', .bool b', .bool c', .bool d', .bool e'] 26)
  have n2 : ((w1.alloc (.cells #[.bool false, .bool b, .bool true, .bool d, .bool e] 26)).alloc (.cells #[.bool a', .bool b', .bool c', .bool d', .bool e'] 26)).heap[w1.heap.size]? = some (.cells #[.bool false, .bool b, .bool true, .bool d, .bool e] 26) := halloc n1 (.cells #[.bool a', .bool b', .bool c', .bool d', .bool e'] 26)
  have D2 : Below w.heap.size w ((w1.alloc (.cells #[.bool false, .bool b, .bool true, .bool d, .bool e] 26)).alloc (.cells #[.bool a', .bool b', .bool c', .bool d', .bool e'] 26)) := below_alloc0 (below_alloc0 D _) _
  obtain ⟨⟨pb0, pb1, pb2, pb3, pb4⟩, ⟨pbf0, pbf1, pbf2, pbf3, pbf4⟩, pbz⟩ := iopen5 p2
  obtain ⟨⟨sb0, sb1, sb2, sb3, sb4⟩, ⟨sbf0, sbf1, sbf2, sbf3, sbf4⟩, sbz⟩ := iopen5 s2
  obtain ⟨⟨nb0, nb1, nb2, nb3, nb4⟩, ⟨nbf0, nbf1, nbf2, nbf3, nbf4⟩, nbz⟩ := iopen5 n2
  obtain ⟨⟨mb0, mb1, mb2, mb3, mb4⟩, ⟨mbf0, mbf1, mbf2, mbf3, mbf4⟩, mbz⟩ := iopen5 m2
  have n3 : ((w1.alloc (.cells #[.bool false, .bool b, .bool false, .bool d, .bool e] 26)).alloc (.cells #[.bool a', .bool false, .bool c', .bool false, .bool e'] 26)).heap[w1.heap.size]? = some (.cells #[.bool false, .bool b, .bool false, .bool d, .bool e] 26) := halloc (heap_alloc_new _ _) (.cells #[.bool a', .bool false, .bool c', .bool false, .bool e'] 26)
  have m3 : ((w1.alloc (.cells #[.bool false, .bool b, .bool false, .bool d, .bool e] 26)).alloc (.cells #[.bool a', .bool false, .bool c', .bool false, .bool e'] 26)).heap[w1.heap.size + 1]? = some (.cells #[.bool a', .bool false, .bool c', .bool false, .bool e'] 26) := by
    have := heap_alloc_new (w1.alloc (.cells #[.bool false, .bool b, .bool false, .bool d, .bool e] 26)) (.cells #[.bool a', .bool false, .bool c', .bool false, .bool e'] 26)
    simpa only [size_alloc] using this
  have q3 : ((w1.alloc (.cells #[.bool false, .bool b, .bool false, .bool d, .bool e] 26)).alloc (.cells #[.bool a', .bool false, .bool c', .bool false, .bool e'] 26)).heap[w.heap.size + 1 + 1]? = some (.cells #[.bool false, .bool false, .bool false, .bool false, .bool false] 26) := halloc (halloc hy2 (.cells #[.bool false, .bool b, .bool false, .bool d, .bool e] 26)) (.cells #[.bool a', .bool false, .bool c', .bool false, .bool e'] 26)
  have r3 : ((w1.alloc (.cells #[.bool false, .bool b, .bool false, .bool d, .bool e] 26)).alloc (.cells #[.bool a', .bool false, .bool c', .bool false, .bool e'] 26)).heap[w.heap.size + 1 + 1 + 1]? = some (.cells #[.bool false, .bool false, .bool false, .bool false, .bool false] 26) := halloc (halloc hy3 (.cells #[.bool false, .bool b, .bool false, .bool d, .bool e] 26)) (.cells #[.bool a', .bool false, .bool c', .bool false, .bool e'] 26)
  have D3 : Below w.heap.size w ((w1.alloc (.cells #[.bool false, .bool b, .bool false, .bool d, .bool e] 26)).alloc (.cells #[.bool a', .bool false, .bool c', .bool false, .bool e'] 26)) := below_alloc0 (below_alloc0 D _) _
  obtain ⟨⟨nd0, nd1, nd2, nd3, nd4⟩, ⟨ndf0, ndf1, ndf2, ndf3, ndf4⟩, ndz⟩ := iopen5 n3
  obtain ⟨⟨md0, md1, md2, md3, md4⟩, ⟨mdf0, mdf1, mdf2, mdf3, mdf4⟩, mdz⟩ := iopen5 m3
  obtain ⟨⟨qd0, qd1, qd2, qd3, qd4⟩, ⟨qdf0, qdf1, qdf2, qdf3, qdf4⟩, qdz⟩ := iopen5 q3
  obtain ⟨⟨rd0, rd1, rd2, rd3, rd4⟩, ⟨rdf0, rdf1, rdf2, rdf3, rdf4⟩, rdz⟩ := iopen5 r3
  go_wp2_with fail
  go_region
  all_goals (try go_wp2)
  all_goals (try simp only [Exit.inBlock, Exit.then])
  (refine bodyPost_cct rfl (w.heap.size + 1 + 1) (w.heap.size + 1 + 1 + 1) 26 26 #[.bool false, .bool b, .bool false, .bool d, .bool e] #[.bool a', .bool false, .bool c', .bool false, .bool e'] (0, 0) (0, 0) _ rfl rfl ?_ ?_ Try.underlying26 rfl info_it5 rfl rfl ⟨?_, ?_⟩)
  · refine heap_drew' ?_
    exact (put5_ne (w := put5 ((w1.alloc (.cells #[.bool false, .bool b, .bool false, .bool d, .bool e] 26)).alloc (.cells #[.bool a', .bool false, .bool c', .bool false, .bool e'] 26)) (w.heap.size + 1 + 1) false b false d e) (g := w.heap.size + 1 + 1 + 1) (k := w.heap.size + 1 + 1) a' false c' false e' (by omega)).trans (put5_at false b false d e q3)
  · refine heap_drew' ?_
    exact put5_at (w := put5 ((w1.alloc (.cells #[.bool false, .bool b, .bool false, .bool d, .bool e] 26)).alloc (.cells #[.bool a', .bool false, .bool c', .bool false, .bool e'] 26)) (w.heap.size + 1 + 1) false b false d e) (g := w.heap.size + 1 + 1 + 1) a' false c' false e' ((put5_ne (w := ((w1.alloc (.cells #[.bool false, .bool b, .bool false, .bool d, .bool e] 26)).alloc (.cells #[.bool a', .bool false, .bool c', .bool false, .bool e'] 26))) (g := w.heap.size + 1 + 1) (k := w.heap.size + 1 + 1 + 1) false b false d e (by omega)).trans r3)
  · rfl
  · exact (put5_below (put5_below D3 (w.heap.size + 1 + 1) (by omega) false b false d e) (w.heap.size + 1 + 1 + 1) (by omega) a' false c' false e').drew
set_option maxHeartbeats 16000000 in
set_option maxRecDepth 100000 in
theorem refact4_0 (a c e a' b' c' d' e' : Bool) (w : World) (hf : Hid (fitI ⟨a, false, c, false, e⟩ ⟨a', b', c', d', e'⟩ = true)) :
    Calls Try.prog 51 #[.agg #[.bool a, .bool false, .bool c, .bool false, .bool e], .agg #[.bool a', .bool b', .bool c', .bool d', .bool e'], .int .i64 4] w fun x w' => x = .returned (.tuple #[.agg #[.bool a, .bool false, .bool c, .bool false, .bool e], .agg #[.bool a', .bool b', .bool c', .bool d', .bool e'], .int .i64 7]) ∧ Below w.heap.size w w' := by
  have hx0 := heap_alloc_new w (.cells #[.bool a, .bool false, .bool c, .bool false, .bool e] 26)
  have hx1 := heap_alloc_new (w.alloc (.cells #[.bool a, .bool false, .bool c, .bool false, .bool e] 26)) (.cells #[.bool a', .bool b', .bool c', .bool d', .bool e'] 26)
  replace hx0 := halloc hx0 (.cells #[.bool a', .bool b', .bool c', .bool d', .bool e'] 26)
  have hx2 := heap_alloc_new ((w.alloc (.cells #[.bool a, .bool false, .bool c, .bool false, .bool e] 26)).alloc (.cells #[.bool a', .bool b', .bool c', .bool d', .bool e'] 26)) (.cells #[.bool false, .bool false, .bool false, .bool false, .bool false] 26)
  replace hx0 := halloc hx0 (.cells #[.bool false, .bool false, .bool false, .bool false, .bool false] 26)
  replace hx1 := halloc hx1 (.cells #[.bool false, .bool false, .bool false, .bool false, .bool false] 26)
  have hx3 := heap_alloc_new (((w.alloc (.cells #[.bool a, .bool false, .bool c, .bool false, .bool e] 26)).alloc (.cells #[.bool a', .bool b', .bool c', .bool d', .bool e'] 26)).alloc (.cells #[.bool false, .bool false, .bool false, .bool false, .bool false] 26)) (.cells #[.bool false, .bool false, .bool false, .bool false, .bool false] 26)
  replace hx0 := halloc hx0 (.cells #[.bool false, .bool false, .bool false, .bool false, .bool false] 26)
  replace hx1 := halloc hx1 (.cells #[.bool false, .bool false, .bool false, .bool false, .bool false] 26)
  replace hx2 := halloc hx2 (.cells #[.bool false, .bool false, .bool false, .bool false, .bool false] 26)
  simp only [size_alloc] at hx0 hx1 hx2 hx3
  have DD : Below w.heap.size w ((((w.alloc (.cells #[.bool a, .bool false, .bool c, .bool false, .bool e] 26)).alloc (.cells #[.bool a', .bool b', .bool c', .bool d', .bool e'] 26)).alloc (.cells #[.bool false, .bool false, .bool false, .bool false, .bool false] 26)).alloc (.cells #[.bool false, .bool false, .bool false, .bool false, .bool false] 26)) := below_alloc0 (below_alloc0 (below_alloc0 (below_box _) _) _) _
  go_enter Try.func51, Try.ntmps51
  go_wp2_with fail
  with_reducible refine (re_ (refMayI_calls a false c false e a' b' c' d' e' _) (ret_bool hf.out)).mono ?_
  rintro x w1 ⟨rfl, b1⟩
  have hy0 := hcall hx0 b1
  have hy1 := hcall hx1 b1
  have hy2 := hcall hx2 b1
  have hy3 := hcall hx3 b1
  have D := below_call DD b1
  have hz0 : w.heap.size + 1 + 1 + 1 + 1 ≤ w1.heap.size := by
    have := b1.size
    simp only [size_alloc] at this
    exact this
  clear b1 DD hx0 hx1 hx2 hx3
  obtain ⟨⟨p0, p1, p2, p3, p4⟩, ⟨pf0, pf1, pf2, pf3, pf4⟩, pz⟩ := iopen5 hy0
  have n1 : (w1.alloc (.cells #[.bool a, .bool false, .bool c, .bool false, .bool e] 26)).heap[w1.heap.size]? = some (.cells #[.bool a, .bool false, .bool c, .bool false, .bool e] 26) := heap_alloc_new _ _
  have s1 : (w1.alloc (.cells #[.bool a, .bool false, .bool c, .bool false, .bool e] 26)).heap[w.heap.size + 1]? = some (.cells #[.bool a', .bool b', .bool c', .bool d', .bool e'] 26) := halloc hy1 (.cells #[.bool a, .bool false, .bool c, .bool false, .bool e] 26)
  obtain ⟨⟨s0, s1, s2, s3, s4⟩, ⟨sf0, sf1, sf2, sf3, sf4⟩, sz⟩ := iopen5 s1
  have m2 : ((w1.alloc (.cells #[.bool a, .bool false, .bool c, .bool false, .bool e] 26)).alloc (.cells #[.bool a', .bool b', .bool c', .bool d', .bool e'] 26)).heap[w1.heap.size + 1]? = some (.cells #[.bool a', .bool b', .bool c', .bool d', .bool e'] 26) := by
    have := heap_alloc_new (w1.alloc (.cells #[.bool a, .bool false, .bool c, .bool false, .bool e] 26)) (.cells #[.bool a', .bool b', .bool c', .bool d', .bool e'] 26)
    simpa only [size_alloc] using this
  have p2 : ((w1.alloc (.cells #[.bool a, .bool false, .bool c, .bool false, .bool e] 26)).alloc (.cells #[.bool a', .bool b', .bool c', .bool d', .bool e'] 26)).heap[w.heap.size]? = some (.cells #[.bool a, .bool false, .bool c, .bool false, .bool e] 26) := halloc (halloc hy0 (.cells #[.bool a, .bool false, .bool c, .bool false, .bool e] 26)) (.cells #[.bool a', .bool b', .bool c', .bool d', .bool e'] 26)
  have s2 : ((w1.alloc (.cells #[.bool a, .bool false, .bool c, .bool false, .bool e] 26)).alloc (.cells #[.bool a', .bool b', .bool c', .bool d', .bool e'] 26)).heap[w.heap.size + 1]? = some (.cells #[.bool a', .bool b', .bool c', .bool d', .bool e'] 26) := halloc (halloc hy1 (.cells #[.bool a, .bool false, .bool c, .bool false, .bool e] 26)) (.cells #[.bool a', .bool b', .bool c', .bool d', .bool e'] 26)
  have q2 : ((w1.alloc (.cells #[.bool a, .bool false, .bool c, .bool false, .bool e] 26)).alloc (.cells #[.bool a', .bool b', .bool c', .bool d', .bool e'] 26)).heap[w.heap.size + 1 + 1]? = some (.cells #[.bool false, .bool false, .bool false, .bool false, .bool false] 26) := halloc (halloc hy2 (.cells #[.bool a, .bool false, .bool c, .bool false, .bool e] 26)) (.cells #[.bool a', .bool b', .bool c', .bool d', .bool e'] 26)
  have r2 : ((w1.alloc (.cells #[.bool a, .bool false, .bool c, .bool false, .bool e] 26)).alloc (.cells #[.bool a', .bool b', .bool c', .bool d', .bool e'] 26)).heap[w.heap.size + 1 + 1 + 1]? = some (.cells #[.bool false, .bool false, .bool false, .bool false, .bool false] 26) := halloc (halloc hy3 (.cells #[.bool a, .bool false, .bool c, .bool false, .bool e] 26)) (.cells #[.bool a', .bool b', .bool c', .bool d', .bool e'] 26)
  have n2 : ((w1.alloc (.cells #[.bool a, .bool false, .bool c, .bool false, .bool e] 26)).alloc (.cells #[.bool a', .bool b', .bool c', .bool d', .bool e'] 26)).heap[w1.heap.size]? = some (.cells #[.bool a, .bool false, .bool c, .bool false, .bool e] 26) := halloc n1 (.cells #[.bool a', .bool b', .bool c', .bool d', .bool e'] 26)
  have D2 : Below w.heap.size w ((w1.alloc (.cells #[.bool a, .bool false, .bool c, .bool false, .bool e] 26)).alloc (.cells #[.bool a', .bool b', .bool c', .bool d', .bool e'] 26)) := below_alloc0 (below_alloc0 D _) _
  obtain ⟨⟨pb0, pb1, pb2, pb3, pb4⟩, ⟨pbf0, pbf1, pbf2, pbf3, pbf4⟩, pbz⟩ := iopen5 p2
  obtain ⟨⟨sb0, sb1, sb2, sb3, sb4⟩, ⟨sbf0, sbf1, sbf2, sbf3, sbf4⟩, sbz⟩ := iopen5 s2
  obtain ⟨⟨qb0, qb1, qb2, qb3, qb4⟩, ⟨qbf0, qbf1, qbf2, qbf3, qbf4⟩, qbz⟩ := iopen5 q2
  obtain ⟨⟨rb0, rb1, rb2, rb3, rb4⟩, ⟨rbf0, rbf1, rbf2, rbf3, rbf4⟩, rbz⟩ := iopen5 r2
  go_wp2_with fail
  go_region
  all_goals (try go_wp2)
  all_goals (try simp only [Exit.inBlock, Exit.then])
  (refine bodyPost_cct rfl (w.heap.size + 1 + 1) (w.heap.size + 1 + 1 + 1) 26 26 #[.bool a, .bool false, .bool c, .bool false, .bool e] #[.bool a', .bool b', .bool c', .bool d', .bool e'] (0, 0) (0, 0) _ rfl rfl ?_ ?_ Try.underlying26 rfl info_it5 rfl rfl ⟨?_, ?_⟩)
  · refine heap_drew' ?_
    exact (put5_ne (w := put5 ((w1.alloc (.cells #[.bool a, .bool false, .bool c, .bool false, .bool e] 26)).alloc (.cells #[.bool a', .bool b', .bool c', .bool d', .bool e'] 26)) (w.heap.size + 1 + 1) a false c false e) (g := w.heap.size + 1 + 1 + 1) (k := w.heap.size + 1 + 1) a' b' c' d' e' (by omega)).trans (put5_at a false c false e q2)
  · refine heap_drew' ?_
    exact put5_at (w := put5 ((w1.alloc (.cells #[.bool a, .bool false, .bool c, .bool false, .bool e] 26)).alloc (.cells #[.bool a', .bool b', .bool c', .bool d', .bool e'] 26)) (w.heap.size + 1 + 1) a false c false e) (g := w.heap.size + 1 + 1 + 1) a' b' c' d' e' ((put5_ne (w := ((w1.alloc (.cells #[.bool a, .bool false, .bool c, .bool false, .bool e] 26)).alloc (.cells #[.bool a', .bool b', .bool c', .bool d', .bool e'] 26))) (g := w.heap.size + 1 + 1) (k := w.heap.size + 1 + 1 + 1) a false c false e (by omega)).trans r2)
  · rfl
  · exact (put5_below (put5_below D2 (w.heap.size + 1 + 1) (by omega) a false c false e) (w.heap.size + 1 + 1 + 1) (by omega) a' b' c' d' e').drew
set_option maxHeartbeats 16000000 in
set_option maxRecDepth 100000 in
theorem refact4_1 (a c d e a' b' c' d' e' : Bool) (w : World) (hf : Hid (fitI ⟨a, true, c, d, e⟩ ⟨a', b', c', d', e'⟩ = true)) :
    Calls Try.prog 51 #[.agg #[.bool a, .bool true, .bool c, .bool d, .bool e], .agg #[.bool a', .bool b', .bool c', .bool d', .bool e'], .int .i64 4] w fun x w' => x = .returned (.tuple #[.agg #[.bool a, .bool false, .bool c, .bool false, .bool e], .agg #[.bool false, .bool b', .bool false, .bool d', .bool e'], .int .i64 0]) ∧ Below w.heap.size w w' := by
  have hx0 := heap_alloc_new w (.cells #[.bool a, .bool true, .bool c, .bool d, .bool e] 26)
  have hx1 := heap_alloc_new (w.alloc (.cells #[.bool a, .bool true, .bool c, .bool d, .bool e] 26)) (.cells #[.bool a', .bool b', .bool c', .bool d', .bool e'] 26)
  replace hx0 := halloc hx0 (.cells #[.bool a', .bool b', .bool c', .bool d', .bool e'] 26)
  have hx2 := heap_alloc_new ((w.alloc (.cells #[.bool a, .bool true, .bool c, .bool d, .bool e] 26)).alloc (.cells #[.bool a', .bool b', .bool c', .bool d', .bool e'] 26)) (.cells #[.bool false, .bool false, .bool false, .bool false, .bool false] 26)
  replace hx0 := halloc hx0 (.cells #[.bool false, .bool false, .bool false, .bool false, .bool false] 26)
  replace hx1 := halloc hx1 (.cells #[.bool false, .bool false, .bool false, .bool false, .bool false] 26)
  have hx3 := heap_alloc_new (((w.alloc (.cells #[.bool a, .bool true, .bool c, .bool d, .bool e] 26)).alloc (.cells #[.bool a', .bool b', .bool c', .bool d', .bool e'] 26)).alloc (.cells #[.bool false, .bool false, .bool false, .bool false, .bool false] 26)) (.cells #[.bool false, .bool false, .bool false, .bool false, .bool false] 26)
  replace hx0 := halloc hx0 (.cells #[.bool false, .bool false, .bool false, .bool false, .bool false] 26)
  replace hx1 := halloc hx1 (.cells #[.bool false, .bool false, .bool false, .bool false, .bool false] 26)
  replace hx2 := halloc hx2 (.cells #[.bool false, .bool false, .bool false, .bool false, .bool false] 26)
  simp only [size_alloc] at hx0 hx1 hx2 hx3
  have DD : Below w.heap.size w ((((w.alloc (.cells #[.bool a, .bool true, .bool c, .bool d, .bool e] 26)).alloc (.cells #[.bool a', .bool b', .bool c', .bool d', .bool e'] 26)).alloc (.cells #[.bool false, .bool false, .bool false, .bool false, .bool false] 26)).alloc (.cells #[.bool false, .bool false, .bool false, .bool false, .bool false] 26)) := below_alloc0 (below_alloc0 (below_alloc0 (below_box _) _) _) _
  go_enter Try.func51, Try.ntmps51
  go_wp2_with fail
  with_reducible refine (re_ (refMayI_calls a true c d e a' b' c' d' e' _) (ret_bool hf.out)).mono ?_
  rintro x w1 ⟨rfl, b1⟩
  have hy0 := hcall hx0 b1
  have hy1 := hcall hx1 b1
  have hy2 := hcall hx2 b1
  have hy3 := hcall hx3 b1
  have D := below_call DD b1
  have hz0 : w.heap.size + 1 + 1 + 1 + 1 ≤ w1.heap.size := by
    have := b1.size
    simp only [size_alloc] at this
    exact this
  clear b1 DD hx0 hx1 hx2 hx3
  obtain ⟨⟨p0, p1, p2, p3, p4⟩, ⟨pf0, pf1, pf2, pf3, pf4⟩, pz⟩ := iopen5 hy0
  have n1 : (w1.alloc (.cells #[.bool a, .bool true, .bool c, .bool d, .bool e] 26)).heap[w1.heap.size]? = some (.cells #[.bool a, .bool true, .bool c, .bool d, .bool e] 26) := heap_alloc_new _ _
  have s1 : (w1.alloc (.cells #[.bool a, .bool true, .bool c, .bool d, .bool e] 26)).heap[w.heap.size + 1]? = some (.cells #[.bool a', .bool b', .bool c', .bool d', .bool e'] 26) := halloc hy1 (.cells #[.bool a, .bool true, .bool c, .bool d, .bool e] 26)
  obtain ⟨⟨s0, s1, s2, s3, s4⟩, ⟨sf0, sf1, sf2, sf3, sf4⟩, sz⟩ := iopen5 s1
  have m2 : ((w1.alloc (.cells #[.bool a, .bool true, .bool c, .bool d, .bool e] 26)).alloc (.cells #[.bool a', .bool b', .bool c', .bool d', .bool e'] 26)).heap[w1.heap.size + 1]? = some (.cells #[.bool a', .bool b', .bool c', .bool d', .bool e'] 26) := by
    have := heap_alloc_new (w1.alloc (.cells #[.bool a, .bool true, .bool c, .bool d, .bool e] 26)) (.cells #[.bool a', .bool b', .bool c', .bool d', .bool e'] 26)
    simpa only [size_alloc] using this
  have p2 : ((w1.alloc (.cells #[.bool a, .bool true, .bool c, .bool d, .bool e] 26)).alloc (.cells #[.bool a', .bool b', .bool c', .bool d', .bool e'] 26)).heap[w.heap.size]? = some (.cells #[.bool a, .bool true, .bool c, .bool d, .bool e] 26) := halloc (halloc hy0 (.cells #[.bool a, .bool true, .bool c, .bool d, .bool e] 26)) (.cells #[.bool a', .bool b', .bool c', .bool d', .bool e'] 26)
  have s2 : ((w1.alloc (.cells #[.bool a, .bool true, .bool c, .bool d, .bool e] 26)).alloc (.cells #[.bool a', .bool b', .bool c', .bool d', .bool e'] 26)).heap[w.heap.size + 1]? = some (.cells #[.bool a', .bool b', .bool c', .bool d', .bool e'] 26) := halloc (halloc hy1 (.cells #[.bool a, .bool true, .bool c, .bool d, .bool e] 26)) (.cells #[.bool a', .bool b', .bool c', .bool d', .bool e'] 26)
  have q2 : ((w1.alloc (.cells #[.bool a, .bool true, .bool c, .bool d, .bool e] 26)).alloc (.cells #[.bool a', .bool b', .bool c', .bool d', .bool e'] 26)).heap[w.heap.size + 1 + 1]? = some (.cells #[.bool false, .bool false, .bool false, .bool false, .bool false] 26) := halloc (halloc hy2 (.cells #[.bool a, .bool true, .bool c, .bool d, .bool e] 26)) (.cells #[.bool a', .bool b', .bool c', .bool d', .bool e'] 26)
  have r2 : ((w1.alloc (.cells #[.bool a, .bool true, .bool c, .bool d, .bool e] 26)).alloc (.cells #[.bool a', .bool b', .bool c', .bool d', .bool e'] 26)).heap[w.heap.size + 1 + 1 + 1]? = some (.cells #[.bool false, .bool false, .bool false, .bool false, .bool false] 26) := halloc (halloc hy3 (.cells #[.bool a, .bool true, .bool c, .bool d, .bool e] 26)) (.cells #[.bool a', .bool b', .bool c', .bool d', .bool e'] 26)
  have n2 : ((w1.alloc (.cells #[.bool a, .bool true, .bool c, .bool d, .bool e] 26)).alloc (.cells #[.bool a', .bool b', .bool c', .bool d', .bool e'] 26)).heap[w1.heap.size]? = some (.cells #[.bool a, .bool true, .bool c, .bool d, .bool e] 26) := halloc n1 (.cells #[.bool a', .bool b', .bool c', .bool d', .bool e'] 26)
  have D2 : Below w.heap.size w ((w1.alloc (.cells #[.bool a, .bool true, .bool c, .bool d, .bool e] 26)).alloc (.cells #[.bool a', .bool b', .bool c', .bool d', .bool e'] 26)) := below_alloc0 (below_alloc0 D _) _
  obtain ⟨⟨pb0, pb1, pb2, pb3, pb4⟩, ⟨pbf0, pbf1, pbf2, pbf3, pbf4⟩, pbz⟩ := iopen5 p2
  obtain ⟨⟨sb0, sb1, sb2, sb3, sb4⟩, ⟨sbf0, sbf1, sbf2, sbf3, sbf4⟩, sbz⟩ := iopen5 s2
  obtain ⟨⟨nb0, nb1, nb2, nb3, nb4⟩, ⟨nbf0, nbf1, nbf2, nbf3, nbf4⟩, nbz⟩ := iopen5 n2
  obtain ⟨⟨mb0, mb1, mb2, mb3, mb4⟩, ⟨mbf0, mbf1, mbf2, mbf3, mbf4⟩, mbz⟩ := iopen5 m2
  have n3 : ((w1.alloc (.cells #[.bool a, .bool false, .bool c, .bool false, .bool e] 26)).alloc (.cells #[.bool false, .bool b', .bool false, .bool d', .bool e'] 26)).heap[w1.heap.size]? = some (.cells #[.bool a, .bool false, .bool c, .bool false, .bool e] 26) := halloc (heap_alloc_new _ _) (.cells #[.bool false, .bool b', .bool false, .bool d', .bool e'] 26)
  have m3 : ((w1.alloc (.cells #[.bool a, .bool false, .bool c, .bool false, .bool e] 26)).alloc (.cells #[.bool false, .bool b', .bool false, .bool d', .bool e'] 26)).heap[w1.heap.size + 1]? = some (.cells #[.bool false, .bool b', .bool false, .bool d', .bool e'] 26) := by
    have := heap_alloc_new (w1.alloc (.cells #[.bool a, .bool false, .bool c, .bool false, .bool e] 26)) (.cells #[.bool false, .bool b', .bool false, .bool d', .bool e'] 26)
    simpa only [size_alloc] using this
  have q3 : ((w1.alloc (.cells #[.bool a, .bool false, .bool c, .bool false, .bool e] 26)).alloc (.cells #[.bool false, .bool b', .bool false, .bool d', .bool e'] 26)).heap[w.heap.size + 1 + 1]? = some (.cells #[.bool false, .bool false, .bool false, .bool false, .bool false] 26) := halloc (halloc hy2 (.cells #[.bool a, .bool false, .bool c, .bool false, .bool e] 26)) (.cells #[.bool false, .bool b', .bool false, .bool d', .bool e'] 26)
  have r3 : ((w1.alloc (.cells #[.bool a, .bool false, .bool c, .bool false, .bool e] 26)).alloc (.cells #[.bool false, .bool b', .bool false, .bool d', .bool e'] 26)).heap[w.heap.size + 1 + 1 + 1]? = some (.cells #[.bool false, .bool false, .bool false, .bool false, .bool false] 26) := halloc (halloc hy3 (.cells #[.bool a, .bool false, .bool c, .bool false, .bool e] 26)) (.cells #[.bool false, .bool b', .bool false, .bool d', .bool e'] 26)
  have D3 : Below w.heap.size w ((w1.alloc (.cells #[.bool a, .bool false, .bool c, .bool false, .bool e] 26)).alloc (.cells #[.bool false, .bool b', .bool false, .bool d', .bool e'] 26)) := below_alloc0 (below_alloc0 D _) _
  obtain ⟨⟨nd0, nd1, nd2, nd3, nd4⟩, ⟨ndf0, ndf1, ndf2, ndf3, ndf4⟩, ndz⟩ := iopen5 n3
  obtain ⟨⟨md0, md1, md2, md3, md4⟩, ⟨mdf0, mdf1, mdf2, mdf3, mdf4⟩, mdz⟩ := iopen5 m3
  obtain ⟨⟨qd0, qd1, qd2, qd3, qd4⟩, ⟨qdf0, qdf1, qdf2, qdf3, qdf4⟩, qdz⟩ := iopen5 q3
  obtain ⟨⟨rd0, rd1, rd2, rd3, rd4⟩, ⟨rdf0, rdf1, rdf2, rdf3, rdf4⟩, rdz⟩ := iopen5 r3
  go_wp2_with fail
  go_region
  all_goals (try go_wp2)
  all_goals (try simp only [Exit.inBlock, Exit.then])
  (refine bodyPost_cct rfl (w.heap.size + 1 + 1) (w.heap.size + 1 + 1 + 1) 26 26 #[.bool a, .bool false, .bool c, .bool false, .bool e] #[.bool false, .bool b', .bool false, .bool d', .bool e'] (0, 0) (0, 0) _ rfl rfl ?_ ?_ Try.underlying26 rfl info_it5 rfl rfl ⟨?_, ?_⟩)
  · refine heap_drew' ?_
    exact (put5_ne (w := put5 ((w1.alloc (.cells #[.bool a, .bool false, .bool c, .bool false, .bool e] 26)).alloc (.cells #[.bool false, .bool b', .bool false, .bool d', .bool e'] 26)) (w.heap.size + 1 + 1) a false c false e) (g := w.heap.size + 1 + 1 + 1) (k := w.heap.size + 1 + 1) false b' false d' e' (by omega)).trans (put5_at a false c false e q3)
  · refine heap_drew' ?_
    exact put5_at (w := put5 ((w1.alloc (.cells #[.bool a, .bool false, .bool c, .bool false, .bool e] 26)).alloc (.cells #[.bool false, .bool b', .bool false, .bool d', .bool e'] 26)) (w.heap.size + 1 + 1) a false c false e) (g := w.heap.size + 1 + 1 + 1) false b' false d' e' ((put5_ne (w := ((w1.alloc (.cells #[.bool a, .bool false, .bool c, .bool false, .bool e] 26)).alloc (.cells #[.bool false, .bool b', .bool false, .bool d', .bool e'] 26))) (g := w.heap.size + 1 + 1) (k := w.heap.size + 1 + 1 + 1) a false c false e (by omega)).trans r3)
  · rfl
  · exact (put5_below (put5_below D3 (w.heap.size + 1 + 1) (by omega) a false c false e) (w.heap.size + 1 + 1 + 1) (by omega) false b' false d' e').drew
set_option maxHeartbeats 16000000 in
set_option maxRecDepth 100000 in
theorem refact4_2 (a c e a' b' c' d' e' : Bool) (w : World) (hf : Hid (fitI ⟨a, false, c, true, e⟩ ⟨a', b', c', d', e'⟩ = true)) :
    Calls Try.prog 51 #[.agg #[.bool a, .bool false, .bool c, .bool true, .bool e], .agg #[.bool a', .bool b', .bool c', .bool d', .bool e'], .int .i64 4] w fun x w' => x = .returned (.tuple #[.agg #[.bool a, .bool false, .bool c, .bool false, .bool e], .agg #[.bool false, .bool b', .bool false, .bool d', .bool e'], .int .i64 0]) ∧ Below w.heap.size w w' := by
  have hx0 := heap_alloc_new w (.cells #[.bool a, .bool false, .bool c, .bool true, .bool e] 26)
  have hx1 := heap_alloc_new (w.alloc (.cells #[.bool a, .bool false, .bool c, .bool true, .bool e] 26)) (.cells #[.bool a', .bool b', .bool c', .bool d', .bool e'] 26)
  replace hx0 := halloc hx0 (.cells #[.bool a', .bool b', .bool c', .bool d', .bool e'] 26)
  have hx2 := heap_alloc_new ((w.alloc (.cells #[.bool a, .bool false, .bool c, .bool true, .bool e] 26)).alloc (.cells #[.bool a', .bool b', .bool c', .bool d', .bool e'] 26)) (.cells #[.bool false, .bool false, .bool false, .bool false, .bool false] 26)
  replace hx0 := halloc hx0 (.cells #[.bool false, .bool false, .bool false, .bool false, .bool false] 26)
  replace hx1 := halloc hx1 (.cells #[.bool false, .bool false, .bool false, .bool false, .bool false] 26)
  have hx3 := heap_alloc_new (((w.alloc (.cells #[.bool a, .bool false, .bool c, .bool true, .bool e] 26)).alloc (.cells #[.bool a', .bool b', .bool c', .bool d', .bool e'] 26)).alloc (.cells #[.bool false, .bool false, .bool false, .bool false, .bool false] 26)) (.cells #[.bool false, .bool false, .bool false, .bool false, .bool false] 26)
  replace hx0 := halloc hx0 (.cells #[.bool false, .bool false, .bool false, .bool false, .bool false] 26)
  replace hx1 := halloc hx1 (.cells #[.bool false, .bool false, .bool false, .bool false, .bool false] 26)
  replace hx2 := halloc hx2 (.cells #[.bool false, .bool false, .bool false, .bool false, .bool false] 26)
  simp only [size_alloc] at hx0 hx1 hx2 hx3
  have DD : Below w.heap.size w ((((w.alloc (.cells #[.bool a, .bool false, .bool c, .bool true, .bool e] 26)).alloc (.cells #[.bool a', .bool b', .bool c', .bool d', .bool e'] 26)).alloc (.cells #[.bool false, .bool false, .bool false, .bool false, .bool false] 26)).alloc (.cells #[.bool false, .bool false, .bool false, .bool false, .bool false] 26)) := below_alloc0 (below_alloc0 (below_alloc0 (below_box _) _) _) _
  go_enter Try.func51, Try.ntmps51
  go_wp2_with fail
  with_reducible refine (re_ (refMayI_calls a false c true e a' b' c' d' e' _) (ret_bool hf.out)).mono ?_
  rintro x w1 ⟨rfl, b1⟩
  have hy0 := hcall hx0 b1
  have hy1 := hcall hx1 b1
  have hy2 := hcall hx2 b1
  have hy3 := hcall hx3 b1
  have D := below_call DD b1
  have hz0 : w.heap.size + 1 + 1 + 1 + 1 ≤ w1.heap.size := by
    have := b1.size
    simp only [size_alloc] at this
    exact this
  clear b1 DD hx0 hx1 hx2 hx3
  obtain ⟨⟨p0, p1, p2, p3, p4⟩, ⟨pf0, pf1, pf2, pf3, pf4⟩, pz⟩ := iopen5 hy0
  have n1 : (w1.alloc (.cells #[.bool a, .bool false, .bool c, .bool true, .bool e] 26)).heap[w1.heap.size]? = some (.cells #[.bool a, .bool false, .bool c, .bool true, .bool e] 26) := heap_alloc_new _ _
  have s1 : (w1.alloc (.cells #[.bool a, .bool false, .bool c, .bool true, .bool e] 26)).heap[w.heap.size + 1]? = some (.cells #[.bool a', .bool b', .bool c', .bool d', .bool e'] 26) := halloc hy1 (.cells #[.bool a, .bool false, .bool c, .bool true, .bool e] 26)
  obtain ⟨⟨s0, s1, s2, s3, s4⟩, ⟨sf0, sf1, sf2, sf3, sf4⟩, sz⟩ := iopen5 s1
  have m2 : ((w1.alloc (.cells #[.bool a, .bool false, .bool c, .bool true, .bool e] 26)).alloc (.cells #[.bool a', .bool b', .bool c', .bool d', .bool e'] 26)).heap[w1.heap.size + 1]? = some (.cells #[.bool a', .bool b', .bool c', .bool d', .bool e'] 26) := by
    have := heap_alloc_new (w1.alloc (.cells #[.bool a, .bool false, .bool c, .bool true, .bool e] 26)) (.cells #[.bool a', .bool b', .bool c', .bool d', .bool e'] 26)
    simpa only [size_alloc] using this
  have p2 : ((w1.alloc (.cells #[.bool a, .bool false, .bool c, .bool true, .bool e] 26)).alloc (.cells #[.bool a', .bool b', .bool c', .bool d', .bool e'] 26)).heap[w.heap.size]? = some (.cells #[.bool a, .bool false, .bool c, .bool true, .bool e] 26) := halloc (halloc hy0 (.cells #[.bool a, .bool false, .bool c, .bool true, .bool e] 26)) (.cells #[.bool a', .bool b', .bool c', .bool d', .bool e'] 26)
  have s2 : ((w1.alloc (.cells #[.bool a, .bool false, .bool c, .bool true, .bool e] 26)).alloc (.cells #[.bool a', .bool b', .bool c', .bool d', .bool e'] 26)).heap[w.heap.size + 1]? = some (.cells #[.bool a', .bool b', .bool c', .bool d', .bool e'] 26) := halloc (halloc hy1 (.cells #[.bool a, .bool false, .bool c, .bool true, .bool e] 26)) (.cells #[.bool a', .bool b', .bool c', .bool d', .bool e'] 26)
  have q2 : ((w1.alloc (.cells #[.bool a, .bool false, .bool c, .bool true, .bool e] 26)).alloc (.cells #[.bool a', .bool b', .bool c', .bool d', .bool e'] 26)).heap[w.heap.size + 1 + 1]? = some (.cells #[.bool false, .bool false, .bool false, .bool false, .bool false] 26) := halloc (halloc hy2 (.cells #[.bool a, .bool false, .bool c, .bool true, .bool e] 26)) (.cells #[.bool a', .bool b', .bool c', .bool d', .bool e'] 26)
  have r2 : ((w1.alloc (.cells #[.bool a, .bool false, .bool c, .bool true, .bool e] 26)).alloc (.cells #[.bool a', .bool b', .bool c', .bool d', .bool e'] 26)).heap[w.heap.size + 1 + 1 + 1]? = some (.cells #[.bool false, .bool false, .bool false, .bool false, .bool false] 26) := halloc (halloc hy3 (.cells #[.bool a, .bool false, .bool c, .bool true, .bool e] 26)) (.cells #[.bool a', .bool b', .bool c', .bool d', .bool e'] 26)
  have n2 : ((w1.alloc (.cells #[.bool a, .bool false, .bool c, .bool true, .bool e] 26)).alloc (.cells #[.bool a', .bool b', .bool c', .bool d', .bool e'] 26)).heap[w1.heap.size]? = some (.cells #[.bool a, .bool false, .bool c, .bool true, .bool e] 26) := halloc n1 (.cells #[.bool a', .bool b', .bool c', .bool d', .bool e'] 26)
  have D2 : Below w.heap.size w ((w1.alloc (.cells #[.bool a, .bool false, .bool c, .bool true, .bool e] 26)).alloc (.cells #[.bool a', .bool b', .bool c', .bool d', .bool e'] 26)) := below_alloc0 (below_alloc0 D _) _
  obtain ⟨⟨pb0, pb1, pb2, pb3, pb4⟩, ⟨pbf0, pbf1, pbf2, pbf3, pbf4⟩, pbz⟩ := iopen5 p2
  obtain ⟨⟨sb0, sb1, sb2, sb3, sb4⟩, ⟨sbf0, sbf1, sbf2, sbf3, sbf4⟩, sbz⟩ := iopen5 s2
  obtain ⟨⟨nb0, nb1, nb2, nb3, nb4⟩, ⟨nbf0, nbf1, nbf2, nbf3, nbf4⟩, nbz⟩ := iopen5 n2
  obtain ⟨⟨mb0, mb1, mb2, mb3, mb4⟩, ⟨mbf0, mbf1, mbf2, mbf3, mbf4⟩, mbz⟩ := iopen5 m2
  have n3 : ((w1.alloc (.cells #[.bool a, .bool false, .bool c, .bool false, .bool e] 26)).alloc (.cells #[.bool false, .bool b', .bool false, .bool d', .bool e'] 26)).heap[w1.heap.size]? = some (.cells #[.bool a, .bool false, .bool c, .bool false, .bool e] 26) := halloc (heap_alloc_new _ _) (.cells #[.bool false, .bool b', .bool false, .bool d', .bool e'] 26)
  have m3 : ((w1.alloc (.cells #[.bool a, .bool false, .bool c, .bool false, .bool e] 26)).alloc (.cells #[.bool false, .bool b', .bool false, .bool d', .bool e'] 26)).heap[w1.heap.size + 1]? = some (.cells #[.bool false, .bool b', .bool false, .bool d', .bool e'] 26) := by
    have := heap_alloc_new (w1.alloc (.cells #[.bool a, .bool false, .bool c, .bool false, .bool e] 26)) (.cells #[.bool false, .bool b', .bool false, .bool d', .bool e'] 26)
    simpa only [size_alloc] using this
  have q3 : ((w1.alloc (.cells #[.bool a, .bool false, .bool c, .bool false, .bool e] 26)).alloc (.cells #[.bool false, .bool b', .bool false, .bool d', .bool e'] 26)).heap[w.heap.size + 1 + 1]? = some (.cells #[.bool false, .bool false, .bool false, .bool false, .bool false] 26) := halloc (halloc hy2 (.cells #[.bool a, .bool false, .bool c, .bool false, .bool e] 26)) (.cells #[.bool false, .bool b', .bool false, .bool d', .bool e'] 26)
  have r3 : ((w1.alloc (.cells #[.bool a, .bool false, .bool c, .bool false, .bool e] 26)).alloc (.cells #[.bool false, .bool b', .bool false, .bool d', .bool e'] 26)).heap[w.heap.size + 1 + 1 + 1]? = some (.cells #[.bool false, .bool false, .bool false, .bool false, .bool false] 26) := halloc (halloc hy3 (.cells #[.bool a, .bool false, .bool c, .bool false, .bool e] 26)) (.cells #[.bool false, .bool b', .bool false, .bool d', .bool e'] 26)
  have D3 : Below w.heap.size w ((w1.alloc (.cells #[.bool a, .bool false, .bool c, .bool false, .bool e] 26)).alloc (.cells #[.bool false, .bool b', .bool false, .bool d', .bool e'] 26)) := below_alloc0 (below_alloc0 D _) _
  obtain ⟨⟨nd0, nd1, nd2, nd3, nd4⟩, ⟨ndf0, ndf1, ndf2, ndf3, ndf4⟩, ndz⟩ := iopen5 n3
  obtain ⟨⟨md0, md1, md2, md3, md4⟩, ⟨mdf0, mdf1, mdf2, mdf3, mdf4⟩, mdz⟩ := iopen5 m3
  obtain ⟨⟨qd0, qd1, qd2, qd3, qd4⟩, ⟨qdf0, qdf1, qdf2, qdf3, qdf4⟩, qdz⟩ := iopen5 q3
  obtain ⟨⟨rd0, rd1, rd2, rd3, rd4⟩, ⟨rdf0, rdf1, rdf2, rdf3, rdf4⟩, rdz⟩ := iopen5 r3
  go_wp2_with fail
  go_region
  all_goals (try go_wp2)
  all_goals (try simp only [Exit.inBlock, Exit.then])
  (refine bodyPost_cct rfl (w.heap.size + 1 + 1) (w.heap.size + 1 + 1 + 1) 26 26 #[.bool a, .bool false, .bool c, .bool false, .bool e] #[.bool false, .bool b', .bool false, .bool d', .bool e'] (0, 0) (0, 0) _ rfl rfl ?_ ?_ Try.underlying26 rfl info_it5 rfl rfl ⟨?_, ?_⟩)
  · refine heap_drew' ?_
    exact (put5_ne (w := put5 ((w1.alloc (.cells #[.bool a, .bool false, .bool c, .bool false, .bool e] 26)).alloc (.cells #[.bool false, .bool b', .bool false, .bool d', .bool e'] 26)) (w.heap.size + 1 + 1) a false c false e) (g := w.heap.size + 1 + 1 + 1) (k := w.heap.size + 1 + 1) false b' false d' e' (by omega)).trans (put5_at a false c false e q3)
  · refine heap_drew' ?_
    exact put5_at (w := put5 ((w1.alloc (.cells #[.bool a, .bool false, .bool c, .bool false, .bool e] 26)).alloc (.cells #[.bool false, .bool b', .bool false, .bool d', .bool e'] 26)) (w.heap.size + 1 + 1) a false c false e) (g := w.heap.size + 1 + 1 + 1) false b' false d' e' ((put5_ne (w := ((w1.alloc (.cells #[.bool a, .bool false, .bool c, .bool false, .bool e] 26)).alloc (.cells #[.bool false, .bool b', .bool false, .bool d', .bool e'] 26))) (g := w.heap.size + 1 + 1) (k := w.heap.size + 1 + 1 + 1) a false c false e (by omega)).trans r3)
  · rfl
  · exact (put5_below (put5_below D3 (w.heap.size + 1 + 1) (by omega) a false c false e) (w.heap.size + 1 + 1 + 1) (by omega) false b' false d' e').drew
set_option maxHeartbeats 16000000 in
set_option maxRecDepth 100000 in
theorem refact5_0 (a b c d a' b' c' d' e' : Bool) (w : World) (hf : Hid (fitI ⟨a, b, c, d, true⟩ ⟨a', b', c', d', e'⟩ = true)) :
    Calls Try.prog 51 #[.agg #[.bool a, .bool b, .bool c, .bool d, .bool true], .agg #[.bool a', .bool b', .bool c', .bool d', .bool e'], .int .i64 5] w fun x w' => x = .returned (.tuple #[.agg #[.bool a, .bool b, .bool c, .bool d, .bool true], .agg #[.bool a', .bool b', .bool c', .bool d', .bool e'], .int .i64 7]) ∧ Below w.heap.size w w' := by
  have hx0 := heap_alloc_new w (.cells #[.bool a, .bool b, .bool c, .bool d, .bool true] 26)
  have hx1 := heap_alloc_new (w.alloc (.cells #[.bool a, .bool b, .bool c, .bool d, .bool true] 26)) (.cells #[.bool a', .bool b', .bool c', .bool d', .bool e'] 26)
  replace hx0 := halloc hx0 (.cells #[.bool a', .bool b', .bool c', .bool d', .bool e'] 26)
  have hx2 := heap_alloc_new ((w.alloc (.cells #[.bool a, .bool b, .bool c, .bool d, .bool true] 26)).alloc (.cells #[.bool a', .bool b', .bool c', .bool d', .bool e'] 26)) (.cells #[.bool false, .bool false, .bool false, .bool false, .bool false] 26)
  replace hx0 := halloc hx0 (.cells #[.bool false, .bool false, .bool false, .bool false, .bool false] 26)
  replace hx1 := halloc hx1 (.cells #[.bool false, .bool false, .bool false, .bool false, .bool false] 26)
  have hx3 := heap_alloc_new (((w.alloc (.cells #[.bool a, .bool b, .bool c, .bool d, .bool true] 26)).alloc (.cells #[.bool a', .bool b', .bool c', .bool d', .bool e'] 26)).alloc (.cells #[.bool false, .bool false, .bool false, .bool false, .bool false] 26)) (.cells #[.bool false, .bool false, .bool false, .bool false, .bool false] 26)
  replace hx0 := halloc hx0 (.cells #[.bool false, .bool false, .bool false, .bool false, .bool false] 26)
  replace hx1 := halloc hx1 (.cells #[.bool false, .bool false, .bool false, .bool false, .bool false] 26)
  replace hx2 := halloc hx2 (.cells #[.bool false, .bool false, .bool false, .bool false, .bool false] 26)
  simp only [size_alloc] at hx0 hx1 hx2 hx3
  have DD : Below w.heap.size w ((((w.alloc (.cells #[.bool a, .bool b, .bool c, .bool d, .bool true] 26)).alloc (.cells #[.bool a', .bool b', .bool c', .bool d', .bool e'] 26)).alloc (.cells #[.bool false, .bool false, .bool false, .bool false, .bool false] 26)).alloc (.cells #[.bool false, .bool false, .bool false, .bool false, .bool false] 26)) := below_alloc0 (below_alloc0 (below_alloc0 (below_box _) _) _) _
  go_enter Try.func51, Try.ntmps51
  go_wp2_with fail
  with_reducible refine (re_ (refMayI_calls a b c d true a' b' c' d' e' _) (ret_bool hf.out)).mono ?_
  rintro x w1 ⟨rfl, b1⟩
  have hy0 := hcall hx0 b1
  have hy1 := hcall hx1 b1
  have hy2 := hcall hx2 b1
  have hy3 := hcall hx3 b1
  have D := below_call DD b1
  have hz0 : w.heap.size + 1 + 1 + 1 + 1 ≤ w1.heap.size := by
    have := b1.size
    simp only [size_alloc] at this
    exact this
  clear b1 DD hx0 hx1 hx2 hx3
  obtain ⟨⟨p0, p1, p2, p3, p4⟩, ⟨pf0, pf1, pf2, pf3, pf4⟩, pz⟩ := iopen5 hy0
  have n1 : (w1.alloc (.cells #[.bool a, .bool b, .bool c, .bool d, .bool true] 26)).heap[w1.heap.size]? = some (.cells #[.bool a, .bool b, .bool c, .bool d, .bool true] 26) := heap_alloc_new _ _
  have s1 : (w1.alloc (.cells #[.bool a, .bool b, .bool c, .bool d, .bool true] 26)).heap[w.heap.size + 1]? = some (.cells #[.bool a', .bool b', .bool c', .bool d', .bool e'] 26) := halloc hy1 (.cells #[.bool a, .bool b, .bool c, .bool d, .bool true] 26)
  obtain ⟨⟨s0, s1, s2, s3, s4⟩, ⟨sf0, sf1, sf2, sf3, sf4⟩, sz⟩ := iopen5 s1
  have m2 : ((w1.alloc (.cells #[.bool a, .bool b, .bool c, .bool d, .bool true] 26)).alloc (.cells #[.bool a', .bool b', .bool c', .bool d', .bool e'] 26)).heap[w1.heap.size + 1]? = some (.cells #[.bool a', .bool b', .bool c', .bool d', .bool e'] 26) := by
    have := heap_alloc_new (w1.alloc (.cells #[.bool a, .bool b, .bool c, .bool d, .bool true] 26)) (.cells #[.bool a', .bool b', .bool c', .bool d', .bool e'] 26)
    simpa only [size_alloc] using this
  have p2 : ((w1.alloc (.cells #[.bool a, .bool b, .bool c, .bool d, .bool true] 26)).alloc (.cells #[.bool a', .bool b', .bool c', .bool d', .bool e'] 26)).heap[w.heap.size]? = some (.cells #[.bool a, .bool b, .bool c, .bool d, .bool true] 26) := halloc (halloc hy0 (.cells #[.bool a, .bool b, .bool c, .bool d, .bool true] 26)) (.cells #[.bool a', .bool b', .bool c', .bool d', .bool e'] 26)
  have s2 : ((w1.alloc (.cells #[.bool a, .bool b, .bool c, .bool d, .bool true] 26)).alloc (.cells #[.bool a', .bool b', .bool c', .bool d', .bool e'] 26)).heap[w.heap.size + 1]? = some (.cells #[.bool a', .bool b', .bool c', .bool d', .bool e'] 26) := halloc (halloc hy1 (.cells #[.bool a, .bool b, .bool c, .bool d, .bool true] 26)) (.cells #[.bool a', .bool b', .bool c', .bool d', .bool e'] 26)
  have q2 : ((w1.alloc (.cells #[.bool a, .bool b, .bool c, .bool d, .bool true] 26)).alloc (.cells #[.bool a', .bool b', .bool c', .bool d', .bool e'] 26)).heap[w.heap.size + 1 + 1]? = some (.cells #[.bool false, .bool false, .bool false, .bool false, .bool false] 26) := halloc (halloc hy2 (.cells #[.bool a, .bool b, .bool c, .bool d, .bool true] 26)) (.cells #[.bool a', .bool b', .bool c', .bool d', .bool e'] 26)
  have r2 : ((w1.alloc (.cells #[.bool a, .bool b, .bool c, .bool d, .bool true] 26)).alloc (.cells #[.bool a', .bool b', .bool c', .bool d', .bool e'] 26)).heap[w.heap.size + 1 + 1 + 1]? = some (.cells #[.bool false, .bool false, .bool false, .bool false, .bool false] 26) := halloc (halloc hy3 (.cells #[.bool a, .bool b, .bool c, .bool d, .bool true] 26)) (.cells #[.bool a', .bool b', .bool c', .bool d', .bool e'] 26)
  have n2 : ((w1.alloc (.cells #[.bool a, .bool b, .bool c, .bool d, .bool true] 26)).alloc (.cells #[.bool a', .bool b', .bool c', .bool d', .bool e'] 26)).heap[w1.heap.size]? = some (.cells #[.bool a, .bool b, .bool c, .bool d, .bool true] 26) := halloc n1 (.cells #[.bool a', .bool b', .bool c', .bool d', .bool e'] 26)
  have D2 : Below w.heap.size w ((w1.alloc (.cells #[.bool a, .bool b, .bool c, .bool d, .bool true] 26)).alloc (.cells #[.bool a', .bool b', .bool c', .bool d', .bool e'] 26)) := below_alloc0 (below_alloc0 D _) _
  obtain ⟨⟨pb0, pb1, pb2, pb3, pb4⟩, ⟨pbf0, pbf1, pbf2, pbf3, pbf4⟩, pbz⟩ := iopen5 p2
  obtain ⟨⟨sb0, sb1, sb2, sb3, sb4⟩, ⟨sbf0, sbf1, sbf2, sbf3, sbf4⟩, sbz⟩ := iopen5 s2
  obtain ⟨⟨qb0, qb1, qb2, qb3, qb4⟩, ⟨qbf0, qbf1, qbf2, qbf3, qbf4⟩, qbz⟩ := iopen5 q2
  obtain ⟨⟨rb0, rb1, rb2, rb3, rb4⟩, ⟨rbf0, rbf1, rbf2, rbf3, rbf4⟩, rbz⟩ := iopen5 r2
  go_wp2_with fail
  go_region
  all_goals (try go_wp2)
  all_goals (try simp only [Exit.inBlock, Exit.then])
  (refine bodyPost_cct rfl (w.heap.size + 1 + 1) (w.heap.size + 1 + 1 + 1) 26 26 #[.bool a, .bool b, .bool c, .bool d, .bool true] #[.bool a', .bool b', .bool c', .bool d', .bool e'] (0, 0) (0, 0) _ rfl rfl ?_ ?_ Try.underlying26 rfl info_it5 rfl rfl ⟨?_, ?_⟩)
  · refine heap_drew' ?_
    exact (put5_ne (w := put5 ((w1.alloc (.cells #[.bool a, .bool b, .bool c, .bool d, .bool true] 26)).alloc (.cells #[.bool a', .bool b', .bool c', .bool d', .bool e'] 26)) (w.heap.size + 1 + 1) a b c d true) (g := w.heap.size + 1 + 1 + 1) (k := w.heap.size + 1 + 1) a' b' c' d' e' (by omega)).trans (put5_at a b c d true q2)
  · refine heap_drew' ?_
    exact put5_at (w := put5 ((w1.alloc (.cells #[.bool a, .bool b, .bool c, .bool d, .bool true] 26)).alloc (.cells #[.bool a', .bool b', .bool c', .bool d', .bool e'] 26)) (w.heap.size + 1 + 1) a b c d true) (g := w.heap.size + 1 + 1 + 1) a' b' c' d' e' ((put5_ne (w := ((w1.alloc (.cells #[.bool a, .bool b, .bool c, .bool d, .bool true] 26)).alloc (.cells #[.bool a', .bool b', .bool c', .bool d', .bool e'] 26))) (g := w.heap.size + 1 + 1) (k := w.heap.size + 1 + 1 + 1) a b c d true (by omega)).trans r2)
  · rfl
  · exact (put5_below (put5_below D2 (w.heap.size + 1 + 1) (by omega) a b c d true) (w.heap.size + 1 + 1 + 1) (by omega) a' b' c' d' e').drew
set_option maxHeartbeats 16000000 in
set_option maxRecDepth 100000 in
theorem refact5_1 (a b c d a' b' c' d' e' : Bool) (w : World) (hf : Hid (fitI ⟨a, b, c, d, false⟩ ⟨a', b', c', d', e'⟩ = true)) :
    Calls Try.prog 51 #[.agg #[.bool a, .bool b, .bool c, .bool d, .bool false], .agg #[.bool a', .bool b', .bool c', .bool d', .bool e'], .int .i64 5] w fun x w' => x = .returned (.tuple #[.agg #[.bool a, .bool b, .bool c, .bool d, .bool true], .agg #[.bool a', .bool b', .bool c', .bool d', .bool e'], .int .i64 0]) ∧ Below w.heap.size w w' := by
  have hx0 := heap_alloc_new w (.cells #[.bool a, .bool b, .bool c, .bool d, .bool false] 26)
  have hx1 := heap_alloc_new (w.alloc (.cells #[.bool a, .bool b, .bool c, .bool d, .bool false] 26)) (.cells #[.bool a', .bool b', .bool c', .bool d', .bool e'] 26)
  replace hx0 := halloc hx0 (.cells #[.bool a', .bool b', .bool c', .bool d', .bool e'] 26)
  have hx2 := heap_alloc_new ((w.alloc (.cells #[.bool a, .bool b, .bool c, .bool d, .bool false] 26)).alloc (.cells #[.bool a', .bool b', .bool c', .bool d', .bool e'] 26)) (.cells #[.bool false, .bool false, .bool false, .bool false, .bool false] 26)
  replace hx0 := halloc hx0 (.cells #[.bool false, .bool false, .bool false, .bool false, .bool false] 26)
  replace hx1 := halloc hx1 (.cells #[.bool false, .bool false, .bool false, .bool false, .bool false] 26)
  have hx3 := heap_alloc_new (((w.alloc (.cells #[.bool a, .bool b, .bool c, .bool d, .bool false] 26)).alloc (.cells #[.bool a', .bool b', .bool c', .bool d', .bool e'] 26)).alloc (.cells #[.bool false, .bool false, .bool false, .bool false, .bool false] 26)) (.cells #[.bool false, .bool false, .bool false, .bool false, .bool false] 26)
  replace hx0 := halloc hx0 (.cells #[.bool false, .bool false, .bool false, .bool false, .bool false] 26)
  replace hx1 := halloc hx1 (.cells #[.bool false, .bool false, .bool false, .bool false, .bool false] 26)
  replace hx2 := halloc hx2 (.cells #[.bool false, .bool false, .bool false, .bool false, .bool false] 26)
  simp only [size_alloc] at hx0 hx1 hx2 hx3
  have DD : Below w.heap.size w ((((w.alloc (.cells #[.bool a, .bool b, .bool c, .bool d, .bool false] 26)).alloc (.cells #[.bool a', .bool b', .bool c', .bool d', .bool e'] 26)).alloc (.cells #[.bool false, .bool false, .bool false, .bool false, .bool false] 26)).alloc (.cells #[.bool false, .bool false, .bool false, .bool false, .bool false] 26)) := below_alloc0 (below_alloc0 (below_alloc0 (below_box _) _) _) _
  go_enter Try.func51, Try.ntmps51
  go_wp2_with fail
  with_reducible refine (re_ (refMayI_calls a b c d false a' b' c' d' e' _) (ret_bool hf.out)).mono ?_
  rintro x w1 ⟨rfl, b1⟩
  have hy0 := hcall hx0 b1
  have hy1 := hcall hx1 b1
  have hy2 := hcall hx2 b1
  have hy3 := hcall hx3 b1
  have D := below_call DD b1
  have hz0 : w.heap.size + 1 + 1 + 1 + 1 ≤ w1.heap.size := by
    have := b1.size
    simp only [size_alloc] at this
    exact this
  clear b1 DD hx0 hx1 hx2 hx3
  obtain ⟨⟨p0, p1, p2, p3, p4⟩, ⟨pf0, pf1, pf2, pf3, pf4⟩, pz⟩ := iopen5 hy0
  have n1 : (w1.alloc (.cells #[.bool a, .bool b, .bool c, .bool d, .bool false] 26)).heap[w1.heap.size]? = some (.cells #[.bool a, .bool b, .bool c, .bool d, .bool false] 26) := heap_alloc_new _ _
  have s1 : (w1.alloc (.cells #[.bool a, .bool b, .bool c, .bool d, .bool false] 26)).heap[w.heap.size + 1]? = some (.cells #[.bool a', .bool b', .bool c', .bool d', .bool e'] 26) := halloc hy1 (.cells #[.bool a, .bool b, .bool c, .bool d, .bool false] 26)
  obtain ⟨⟨s0, s1, s2, s3, s4⟩, ⟨sf0, sf1, sf2, sf3, sf4⟩, sz⟩ := iopen5 s1
  have m2 : ((w1.alloc (.cells #[.bool a, .bool b, .bool c, .bool d, .bool false] 26)).alloc (.cells #[.bool a', .bool b', .bool c', .bool d', .bool e'] 26)).heap[w1.heap.size + 1]? = some (.cells #[.bool a', .bool b', .bool c', .bool d', .bool e'] 26) := by
    have := heap_alloc_new (w1.alloc (.cells #[.bool a, .bool b, .bool c, .bool d, .bool false] 26)) (.cells #[.bool a', .bool b', .bool c', .bool d', .bool e'] 26)
    simpa only [size_alloc] using this
  have p2 : ((w1.alloc (.cells #[.bool a, .bool b, .bool c, .bool d, .bool false] 26)).alloc (.cells #[.bool a', .bool b', .bool c', .bool d', .bool e'] 26)).heap[w.heap.size]? = some (.cells #[.bool a, .bool b, .bool c, .bool d, .bool false] 26) := halloc (halloc hy0 (.cells #[.bool a, .bool b, .bool c, .bool d, .bool false] 26)) (.cells #[.bool a', .bool b', .bool c', .bool d', .bool e'] 26)
  have s2 : ((w1.alloc (.cells #[.bool a, .bool b, .bool c, .bool d, .bool false] 26)).alloc (.cells #[.bool a', .bool b', .bool c', .bool d', .bool e'] 26)).heap[w.heap.size + 1]? = some (.cells #[.bool a', .bool b', .bool c', .bool d', .bool e'] 26) := halloc (halloc hy1 (.cells #[.bool a, .bool b, .bool c, .bool d, .bool false] 26)) (.cells #[.bool a', .bool b', .bool c', .bool d', .bool e'] 26)
  have q2 : ((w1.alloc (.cells #[.bool a, .bool b, .bool c, .bool d, .bool false] 26)).alloc (.cells #[.bool a', .bool b', .bool c', .bool d', .bool e'] 26)).heap[w.heap.size + 1 + 1]? = some (.cells #[.bool false, .bool false, .bool false, .bool false, .bool false] 26) := halloc (halloc hy2 (.cells #[.bool a, .bool b, .bool c, .bool d, .bool false] 26)) (.cells #[.bool a', .bool b', .bool c', .bool d', .bool e'] 26)
  have r2 : ((w1.alloc (.cells #[.bool a, .bool b, .bool c, .bool d, .bool false] 26)).alloc (.cells #[.bool a', .bool b', .bool c', .bool d', .bool e'] 26)).heap[w.heap.size + 1 + 1 + 1]? = some (.cells #[.bool false, .bool false, .bool false, .bool false, .bool false] 26) := halloc (halloc hy3 (.cells #[.bool a, .bool b, .bool c, .bool d, .bool false] 26)) (.cells #[.bool a', .bool b', .bool c', .bool d', .bool e'] 26)
  have n2 : ((w1.alloc (.cells #[.bool a, .bool b, .bool c, .bool d, .bool false] 26)).alloc (.cells #[.bool a', .bool b', .bool c', .bool d', .bool e'] 26)).heap[w1.heap.size]? = some (.cells #[.bool a, .bool b, .bool c, .bool d, .bool false] 26) := halloc n1 (.cells #[.bool a', .bool b', .bool c', .bool d', .bool e'] 26)
  have D2 : Below w.heap.size w ((w1.alloc (.cells #[.bool a, .bool b, .bool c, .bool d, .bool false] 26)).alloc (.cells #[.bool a', .bool b', .bool c', .bool d', .bool e'] 26)) := below_alloc0 (below_alloc0 D _) _
  obtain ⟨⟨pb0, pb1, pb2, pb3, pb4⟩, ⟨pbf0, pbf1, pbf2, pbf3, pbf4⟩, pbz⟩ := iopen5 p2
  obtain ⟨⟨sb0, sb1, sb2, sb3, sb4⟩, ⟨sbf0, sbf1, sbf2, sbf3, sbf4⟩, sbz⟩ := iopen5 s2
  obtain ⟨⟨nb0, nb1, nb2, nb3, nb4⟩, ⟨nbf0, nbf1, nbf2, nbf3, nbf4⟩, nbz⟩ := iopen5 n2
  obtain ⟨⟨mb0, mb1, mb2, mb3, mb4⟩, ⟨mbf0, mbf1, mbf2, mbf3, mbf4⟩, mbz⟩ := iopen5 m2
  have n3 : ((w1.alloc (.cells #[.bool a, .bool b, .bool c, .bool d, .bool true] 26)).alloc (.cells #[.bool a', .bool b', .bool c', .bool d', .bool e'] 26)).heap[w1.heap.size]? = some (.cells #[.bool a, .bool b, .bool c, .bool d, .bool true] 26) := halloc (heap_alloc_new _ _) (.cells #[.bool a', .bool b', .bool c', .bool d', .bool e'] 26)
  have m3 : ((w1.alloc (.cells #[.bool a, .bool b, .bool c, .bool d, .bool true] 26)).alloc (.cells #[.bool a', .bool b', .bool c', .bool d', .bool e'] 26)).heap[w1.heap.size + 1]? = some (.cells #[.bool a', .bool b', .bool c', .bool d', .bool e'] 26) := by
    have := heap_alloc_new (w1.alloc (.cells #[.bool a, .bool b, .bool c, .bool d, .bool true] 26)) (.cells #[.bool a', .bool b', .bool c', .bool d', .bool e'] 26)
    simpa only [size_alloc] using this
  have q3 : ((w1.alloc (.cells #[.bool a, .bool b, .bool c, .bool d, .bool true] 26)).alloc (.cells #[.bool a', .bool b', .bool c', .bool d', .bool e'] 26)).heap[w.heap.size + 1 + 1]? = some (.cells #[.bool false, .bool false, .bool false, .bool false, .bool false] 26) := halloc (halloc hy2 (.cells #[.bool a, .bool b, .bool c, .bool d, .bool true] 26)) (.cells #[.bool a', .bool b', .bool c', .bool d', .bool e'] 26)
  have r3 : ((w1.alloc (.cells #[.bool a, .bool b, .bool c, .bool d, .bool true] 26)).alloc (.cells #[.bool a', .bool b', .bool c', .bool d', .bool e'] 26)).heap[w.heap.size + 1 + 1 + 1]? = some (.cells #[.bool false, .bool false, .bool false, .bool false, .bool false] 26) := halloc (halloc hy3 (.cells #[.bool a, .bool b, .bool c, .bool d, .bool true] 26)) (.cells #[.bool a', .bool b', .bool c', .bool d', .bool e'] 26)
  have D3 : Below w.heap.size w ((w1.alloc (.cells #[.bool a, .bool b, .bool c, .bool d, .bool true] 26)).alloc (.cells #[.bool a', .bool b', .bool c', .bool d', .bool e'] 26)) := below_alloc0 (below_alloc0 D _) _
  obtain ⟨⟨nd0, nd1, nd2, nd3, nd4⟩, ⟨ndf0, ndf1, ndf2, ndf3, ndf4⟩, ndz⟩ := iopen5 n3
  obtain ⟨⟨md0, md1, md2, md3, md4⟩, ⟨mdf0, mdf1, mdf2, mdf3, mdf4⟩, mdz⟩ := iopen5 m3
  obtain ⟨⟨qd0, qd1, qd2, qd3, qd4⟩, ⟨qdf0, qdf1, qdf2, qdf3, qdf4⟩, qdz⟩ := iopen5 q3
  obtain ⟨⟨rd0, rd1, rd2, rd3, rd4⟩, ⟨rdf0, rdf1, rdf2, rdf3, rdf4⟩, rdz⟩ := iopen5 r3
  go_wp2_with fail
  go_region
  all_goals (try go_wp2)
  all_goals (try simp only [Exit.inBlock, Exit.then])
  (refine bodyPost_cct rfl (w.heap.size + 1 + 1) (w.heap.size + 1 + 1 + 1) 26 26 #[.bool a, .bool b, .bool c, .bool d, .bool true] #[.bool a', .bool b', .bool c', .bool d', .bool e'] (0, 0) (0, 0) _ rfl rfl ?_ ?_ Try.underlying26 rfl info_it5 rfl rfl ⟨?_, ?_⟩)
  · refine heap_drew' ?_
    exact (put5_ne (w := put5 ((w1.alloc (.cells #[.bool a, .bool b, .bool c, .bool d, .bool true] 26)).alloc (.cells #[.bool a', .bool b', .bool c', .bool d', .bool e'] 26)) (w.heap.size + 1 + 1) a b c d true) (g := w.heap.size + 1 + 1 + 1) (k := w.heap.size + 1 + 1) a' b' c' d' e' (by omega)).trans (put5_at a b c d true q3)
  · refine heap_drew' ?_
    exact put5_at (w := put5 ((w1.alloc (.cells #[.bool a, .bool b, .bool c, .bool d, .bool true] 26)).alloc (.cells #[.bool a', .bool b', .bool c', .bool d', .bool e'] 26)) (w.heap.size + 1 + 1) a b c d true) (g := w.heap.size + 1 + 1 + 1) a' b' c' d' e' ((put5_ne (w := ((w1.alloc (.cells #[.bool a, .bool b, .bool c, .bool d, .bool true] 26)).alloc (.cells #[.bool a', .bool b', .bool c', .bool d', .bool e'] 26))) (g := w.heap.size + 1 + 1) (k := w.heap.size + 1 + 1 + 1) a b c d true (by omega)).trans r3)
  · rfl
  · exact (put5_below (put5_below D3 (w.heap.size + 1 + 1) (by omega) a b c d true) (w.heap.size + 1 + 1 + 1) (by omega) a' b' c' d' e').drew
set_option maxHeartbeats 16000000 in
set_option maxRecDepth 100000 in
theorem refact6_0 (a b c d a' b' c' d' e' : Bool) (w : World) (hf : Hid (fitI ⟨a, b, c, d, false⟩ ⟨a', b', c', d', e'⟩ = true)) :
    Calls Try.prog 51 #[.agg #[.bool a, .bool b, .bool c, .bool d, .bool false], .agg #[.bool a', .bool b', .bool c', .bool d', .bool e'], .int .i64 6] w fun x w' => x = .returned (.tuple #[.agg #[.bool a, .bool b, .bool c, .bool d, .bool false], .agg #[.bool a', .bool b', .bool c', .bool d', .bool e'], .int .i64 7]) ∧ Below w.heap.size w w' := by
  have hx0 := heap_alloc_new w (.cells #[.bool a, .bool b, .bool c, .bool d, .bool false] 26)
  have hx1 := heap_alloc_new (w.alloc (.cells #[.bool a, .bool b, .bool c, .bool d, .bool false] 26)) (.cells #[.bool a', .bool b', .bool c', .bool d', .bool e'] 26)
  replace hx0 := halloc hx0 (.cells #[.bool a', .bool b', .bool c', .bool d', .bool e'] 26)
  have hx2 := heap_alloc_new ((w.alloc (.cells #[.bool a, .bool b, .bool c, .bool d, .bool false] 26)).alloc (.cells #[.bool a', .bool b', .bool c', .bool d', .bool e'] 26)) (.cells #[.bool false, .bool false, .bool false, .bool false, .bool false] 26)
  replace hx0 := halloc hx0 (.cells #[.bool false, .bool false, .bool false, .bool false, .bool false] 26)
  replace hx1 := halloc hx1 (.cells #[.bool false, .bool false, .bool false, .bool false, .bool false] 26)
  have hx3 := heap_alloc_new (((w.alloc (.cells #[.bool a, .bool b, .bool c, .bool d, .bool false] 26)).alloc (.cells #[.bool a', .bool b', .bool c', .bool d', .bool e'] 26)).alloc (.cells #[.bool false, .bool false, .bool false, .bool false, .bool false] 26)) (.cells #[.bool false, .bool false, .bool false, .bool false, .bool false] 26)
  replace hx0 := halloc hx0 (.cells #[.bool false, .bool false, .bool false, .bool false, .bool false] 26)
  replace hx1 := halloc hx1 (.cells #[.bool false, .bool false, .bool false, .bool false, .bool false] 26)
  replace hx2 := halloc hx2 (.cells #[.bool false, .bool false, .bool false, .bool false, .bool false] 26)
  simp only [size_alloc] at hx0 hx1 hx2 hx3
  have DD : Below w.heap.size w ((((w.alloc (.cells #[.bool a, .bool b, .bool c, .bool d, .bool false] 26)).alloc (.cells #[.bool a', .bool b', .bool c', .bool d', .bool e'] 26)).alloc (.cells #[.bool false, .bool false, .bool false, .bool false, .bool false] 26)).alloc (.cells #[.bool false, .bool false, .bool false, .bool false, .bool false] 26)) := below_alloc0 (below_alloc0 (below_alloc0 (below_box _) _) _) _
  go_enter Try.func51, Try.ntmps51
  go_wp2_with fail
  with_reducible refine (re_ (refMayI_calls a b c d false a' b' c' d' e' _) (ret_bool hf.out)).mono ?_
  rintro x w1 ⟨rfl, b1⟩
  have hy0 := hcall hx0 b1
  have hy1 := hcall hx1 b1
  have hy2 := hcall hx2 b1
  have hy3 := hcall hx3 b1
  have D := below_call DD b1
  have hz0 : w.heap.size + 1 + 1 + 1 + 1 ≤ w1.heap.size := by
    have := b1.size
    simp only [size_alloc] at this
    exact this
  clear b1 DD hx0 hx1 hx2 hx3
  obtain ⟨⟨p0, p1, p2, p3, p4⟩, ⟨pf0, pf1, pf2, pf3, pf4⟩, pz⟩ := iopen5 hy0
  have n1 : (w1.alloc (.cells #[.bool a, .bool b, .bool c, .bool d, .bool false] 26)).heap[w1.heap.size]? = some (.cells #[.bool a, .bool b, .bool c, .bool d, .bool false] 26) := heap_alloc_new _ _
  have s1 : (w1.alloc (.cells #[.bool a, .bool b, .bool c, .bool d, .bool false] 26)).heap[w.heap.size + 1]? = some (.cells #[.bool a', .bool b', .bool c', .bool d', .bool e'] 26) := halloc hy1 (.cells #[.bool a, .bool b, .bool c, .bool d, .bool false] 26)
  obtain ⟨⟨s0, s1, s2, s3, s4⟩, ⟨sf0, sf1, sf2, sf3, sf4⟩, sz⟩ := iopen5 s1
  have m2 : ((w1.alloc (.cells #[.bool a, .bool b, .bool c, .bool d, .bool false] 26)).alloc (.cells #[.bool a', .bool b', .bool c', .bool d', .bool e'] 26)).heap[w1.heap.size + 1]? = some (.cells #[.bool a', .bool b', .bool c', .bool d', .bool e'] 26) := by
    have := heap_alloc_new (w1.alloc (.cells #[.bool a, .bool b, .bool c, .bool d, .bool false] 26)) (.cells #[.bool a', .bool b', .bool c', .bool d', .bool e'] 26)
    simpa only [size_alloc] using this
  have p2 : ((w1.alloc (.cells #[.bool a, .bool b, .bool c, .bool d, .bool false] 26)).alloc (.cells #[.bool a', .bool b', .bool c', .bool d', .bool e'] 26)).heap[w.heap.size]? = some (.cells #[.bool a, .bool b, .bool c, .bool d, .bool false] 26) := halloc (halloc hy0 (.cells #[.bool a, .bool b, .bool c, .bool d, .bool false] 26)) (.cells #[.bool a', .bool b', .bool c', .bool d', .bool e'] 26)
  have s2 : ((w1.alloc (.cells #[.bool a, .bool b, .bool c, .bool d, .bool false] 26)).alloc (.cells #[.bool a', .bool b', .bool c', .bool d', .bool e'] 26)).heap[w.heap.size + 1]? = some (.cells #[.bool a', .bool b', .bool c', .bool d', .bool e'] 26) := halloc (halloc hy1 (.cells #[.bool a, .bool b, .bool c, .bool d, .bool false] 26)) (.cells #[.bool a', .bool b', .bool c', .bool d', .bool e'] 26)
  have q2 : ((w1.alloc (.cells #[.bool a, .bool b, .bool c, .bool d, .bool false] 26)).alloc (.cells #[.bool a', .bool b', .bool c', .bool d', .bool e'] 26)).heap[w.heap.size + 1 + 1]? = some (.cells #[.bool false, .bool false, .bool false, .bool false, .bool false] 26) := halloc (halloc hy2 (.cells #[.bool a, .bool b, .bool c, .bool d, .bool false] 26)) (.cells #[.bool a', .bool b', .bool c', .bool d', .bool e'] 26)
  have r2 : ((w1.alloc (.cells #[.bool a, .bool b, .bool c, .bool d, .bool false] 26)).alloc (.cells #[.bool a', .bool b', .bool c', .bool d', .bool e'] 26)).heap[w.heap.size + 1 + 1 + 1]? = some (.cells #[.bool false, .bool false, .bool false, .bool false, .bool false] 26) := halloc (halloc hy3 (.cells #[.bool a, .bool b, .bool c, .bool d, .bool false] 26)) (.cells #[.bool a', .bool b', .bool c', .bool d', .bool e'] 26)
  have n2 : ((w1.alloc (.cells #[.bool a, .bool b, .bool c, .bool d, .bool false] 26)).alloc (.cells #[.bool a', .bool b', .bool c', .bool d', .bool e'] 26)).heap[w1.heap.size]? = some (.cells #[.bool a, .bool b, .bool c, .bool d, .bool false] 26) := halloc n1 (.cells #[.bool a', .bool b', .bool c', .bool d', .bool e'] 26)
  have D2 : Below w.heap.size w ((w1.alloc (.cells #[.bool a, .bool b, .bool c, .bool d, .bool false] 26)).alloc (.cells #[.bool a', .bool b', .bool c', .bool d', .bool e'] 26)) := below_alloc0 (below_alloc0 D _) _
  obtain ⟨⟨pb0, pb1, pb2, pb3, pb4⟩, ⟨pbf0, pbf1, pbf2, pbf3, pbf4⟩, pbz⟩ := iopen5 p2
  obtain ⟨⟨sb0, sb1, sb2, sb3, sb4⟩, ⟨sbf0, sbf1, sbf2, sbf3, sbf4⟩, sbz⟩ := iopen5 s2
  obtain ⟨⟨qb0, qb1, qb2, qb3, qb4⟩, ⟨qbf0, qbf1, qbf2, qbf3, qbf4⟩, qbz⟩ := iopen5 q2
  obtain ⟨⟨rb0, rb1, rb2, rb3, rb4⟩, ⟨rbf0, rbf1, rbf2, rbf3, rbf4⟩, rbz⟩ := iopen5 r2
  go_wp2_with fail
  go_region
  all_goals (try go_wp2)
  all_goals (try simp only [Exit.inBlock, Exit.then])
  (refine bodyPost_cct rfl (w.heap.size + 1 + 1) (w.heap.size + 1 + 1 + 1) 26 26 #[.bool a, .bool b, .bool c, .bool d, .bool false] #[.bool a', .bool b', .bool c', .bool d', .bool e'] (0, 0) (0, 0) _ rfl rfl ?_ ?_ Try.underlying26 rfl info_it5 rfl rfl ⟨?_, ?_⟩)
  · refine heap_drew' ?_
    exact (put5_ne (w := put5 ((w1.alloc (.cells #[.bool a, .bool b, .bool c, .bool d, .bool false] 26)).alloc (.cells #[.bool a', .bool b', .bool c', .bool d', .bool e'] 26)) (w.heap.size + 1 + 1) a b c d false) (g := w.heap.size + 1 + 1 + 1) (k := w.heap.size + 1 + 1) a' b' c' d' e' (by omega)).trans (put5_at a b c d false q2)
  · refine heap_drew' ?_
    exact put5_at (w := put5 ((w1.alloc (.cells #[.bool a, .bool b, .bool c, .bool d, .bool false] 26)).alloc (.cells #[.bool a', .bool b', .bool c', .bool d', .bool e'] 26)) (w.heap.size + 1 + 1) a b c d false) (g := w.heap.size + 1 + 1 + 1) a' b' c' d' e' ((put5_ne (w := ((w1.alloc (.cells #[.bool a, .bool b, .bool c, .bool d, .bool false] 26)).alloc (.cells #[.bool a', .bool b', .bool c', .bool d', .bool e'] 26))) (g := w.heap.size + 1 + 1) (k := w.heap.size + 1 + 1 + 1) a b c d false (by omega)).trans r2)
  · rfl
  · exact (put5_below (put5_below D2 (w.heap.size + 1 + 1) (by omega) a b c d false) (w.heap.size + 1 + 1 + 1) (by omega) a' b' c' d' e').drew
set_option maxHeartbeats 16000000 in
set_option maxRecDepth 100000 in
theorem refact6_1 (a b c d a' b' c' d' e' : Bool) (w : World) (hf : Hid (fitI ⟨a, b, c, d, true⟩ ⟨a', b', c', d', e'⟩ = true)) :
    Calls Try.prog 51 #[.agg #[.bool a, .bool b, .bool c, .bool d, .bool true], .agg #[.bool a', .bool b', .bool c', .bool d', .bool e'], .int .i64 6] w fun x w' => x = .returned (.tuple #[.agg #[.bool a, .bool b, .bool c, .bool d, .bool false], .agg #[.bool a', .bool b', .bool c', .bool d', .bool e'], .int .i64 0]) ∧ Below w.heap.size w w' := by
  have hx0 := heap_alloc_new w (.cells #[.bool a, .bool b, .bool c, .bool d, .bool true] 26)
  have hx1 := heap_alloc_new (w.alloc (.cells #[.bool a, .bool b, .bool c, .bool d, .bool true] 26)) (.cells #[.bool a', .bool b', .bool c', .bool d', .bool e'] 26)
  replace hx0 := halloc hx0 (.cells #[.bool a', .bool b', .bool c', .bool d', .bool e'] 26)
  have hx2 := heap_alloc_new ((w.alloc (.cells #[.bool a, .bool b, .bool c, .bool d, .bool true] 26)).alloc (.cells #[.bool a', .bool b', .bool c', .bool d', .bool e'] 26)) (.cells #[.bool false, .bool false, .bool false, .bool false, .bool false] 26)
  replace hx0 := halloc hx0 (.cells #[.bool false, .bool false, .bool false, .bool false, .bool false] 26)
  replace hx1 := halloc hx1 (.cells #[.bool false, .bool false, .bool false, .bool false, .bool false] 26)
  have hx3 := heap_alloc_new (((w.alloc (.cells #[.bool a, .bool b, .bool c, .bool d, .bool true] 26)).alloc (.cells #[.bool a', .bool b', .bool c', .bool d', .bool e'] 26)).alloc (.cells #[.bool false, .bool false, .bool false, .bool false, .bool false] 26)) (.cells #[.bool false, .bool false, .bool false, .bool false, .bool false] 26)
  replace hx0 := halloc hx0 (.cells #[.bool false, .bool false, .bool false, .bool false, .bool false] 26)
  replace hx1 := halloc hx1 (.cells #[.bool false, .bool false, .bool false, .bool false, .bool false] 26)
  replace hx2 := halloc hx2 (.cells #[.bool false, .bool false, .bool false, .bool false, .bool false] 26)
  simp only [size_alloc] at hx0 hx1 hx2 hx3
  have DD : Below w.heap.size w ((((w.alloc (.cells #[.bool a, .bool b, .bool c, .bool d, .bool true] 26)).alloc (.cells #[.bool a', .bool b', .bool c', .bool d', .bool e'] 26)).alloc (.cells #[.bool false, .bool false, .bool false, .bool false, .bool false] 26)).alloc (.cells #[.bool false, .bool false, .bool false, .bool false, .bool false] 26)) := below_alloc0 (below_alloc0 (below_alloc0 (below_box _) _) _) _
  go_enter Try.func51, Try.ntmps51
  go_wp2_with fail
  with_reducible refine (re_ (refMayI_calls a b c d true a' b' c' d' e' _) (ret_bool hf.out)).mono ?_
  rintro x w1 ⟨rfl, b1⟩
  have hy0 := hcall hx0 b1
  have hy1 := hcall hx1 b1
  have hy2 := hcall hx2 b1
  have hy3 := hcall hx3 b1
  have D := below_call DD b1
  have hz0 : w.heap.size + 1 + 1 + 1 + 1 ≤ w1.heap.size := by
    have := b1.size
    simp only [size_alloc] at this
    exact this
  clear b1 DD hx0 hx1 hx2 hx3
  obtain ⟨⟨p0, p1, p2, p3, p4⟩, ⟨pf0, pf1, pf2, pf3, pf4⟩, pz⟩ := iopen5 hy0
  have n1 : (w1.alloc (.cells #[.bool a, .bool b, .bool c, .bool d, .bool true] 26)).heap[w1.heap.size]? = some (.cells #[.bool a, .bool b, .bool c, .bool d, .bool true] 26) := heap_alloc_new _ _
  have s1 : (w1.alloc (.cells #[.bool a, .bool b, .bool c, .bool d, .bool true] 26)).heap[w.heap.size + 1]? = some (.cells #[.bool a', .bool b', .bool c', .bool d', .bool e'] 26) := halloc hy1 (.cells #[.bool a, .bool b, .bool c, .bool d, .bool true] 26)
  obtain ⟨⟨s0, s1, s2, s3, s4⟩, ⟨sf0, sf1, sf2, sf3, sf4⟩, sz⟩ := iopen5 s1
  have m2 : ((w1.alloc (.cells #[.bool a, .bool b, .bool c, .bool d, .bool true] 26)).alloc (.cells #[.bool a', .bool b', .bool c', .bool d', .bool e'] 26)).heap[w1.heap.size + 1]? = some (.cells #[.bool a', .bool b', .bool c', .bool d', .bool e'] 26) := by
    have := heap_alloc_new (w1.alloc (.cells #[.bool a, .bool b, .bool c, .bool d, .bool true] 26)) (.cells #[.bool a', .bool b', .bool c', .bool d', .bool e'] 26)
    simpa only [size_alloc] using this
  have p2 : ((w1.alloc (.cells #[.bool a, .bool b, .bool c, .bool d, .bool true] 26)).alloc (.cells #[.bool a', .bool b', .bool c', .bool d', .bool e'] 26)).heap[w.heap.size]? = some (.cells #[.bool a, .bool b, .bool c, .bool d, .bool true] 26) := halloc (halloc hy0 (.cells #[.bool a, .bool b, .bool c, .bool d, .bool true] 26)) (.cells #[.bool a', .bool b', .bool c', .bool d', .bool e'] 26)
  have s2 : ((w1.alloc (.cells #[.bool a, .bool b, .bool c, .bool d, .bool true] 26)).alloc (.cells #[.bool a', .bool b', .bool c', .bool d', .bool e'] 26)).heap[w.heap.size + 1]? = some (.cells #[.bool a', .bool b', .bool c', .bool d', .bool e'] 26) := halloc (halloc hy1 (.cells #[.bool a, .bool b, .bool c, .bool d, .bool true] 26)) (.cells #[.bool a', .bool b', .bool c', .bool d', .bool e'] 26)
  have q2 : ((w1.alloc (.cells #[.bool a, .bool b, .bool c, .bool d, .bool true] 26)).alloc (.cells #[.bool a', .bool b', .bool c', .bool d', .bool e'] 26)).heap[w.heap.size + 1 + 1]? = some (.cells #[.bool false, .bool false, .bool false, .bool false, .bool false] 26) := halloc (halloc hy2 (.cells #[.bool a, .bool b, .bool c, .bool d, .bool true] 26)) (.cells #[.bool a', .bool b', .bool c', .bool d', .bool e'] 26)
  have r2 : ((w1.alloc (.cells #[.bool a, .bool b, .bool c, .bool d, .bool true] 26)).alloc (.cells #[.bool a', .bool b', .bool c', .bool d', .bool e'] 26)).heap[w.heap.size + 1 + 1 + 1]? = some (.cells #[.bool false, .bool false, .bool false, .bool false, .bool false] 26) := halloc (halloc hy3 (.cells #[.bool a, .bool b, .bool c, .bool d, .bool true] 26)) (.cells #[.bool a', .bool b', .bool c', .bool d', .bool e'] 26)
  have n2 : ((w1.alloc (.cells #[.bool a, .bool b, .bool c, .bool d, .bool true] 26)).alloc (.cells #[.bool a', .bool b', .bool c', .bool d', .bool e'] 26)).heap[w1.heap.size]? = some (.cells #[.bool a, .bool b, .bool c, .bool d, .bool true] 26) := halloc n1 (.cells #[.bool a', .bool b', .bool c', .bool d', .bool e'] 26)
  have D2 : Below w.heap.size w ((w1.alloc (.cells #[.bool a, .bool b, .bool c, .bool d, .bool true] 26)).alloc (.cells #[.bool a', .bool b', .bool c', .bool d', .bool e'] 26)) := below_alloc0 (below_alloc0 D _) _
  obtain ⟨⟨pb0, pb1, pb2, pb3, pb4⟩, ⟨pbf0, pbf1, pbf2, pbf3, pbf4⟩, pbz⟩ := iopen5 p2
  obtain ⟨⟨sb0, sb1, sb2, sb3, sb4⟩, ⟨sbf0, sbf1, sbf2, sbf3, sbf4⟩, sbz⟩ := iopen5 s2
  obtain ⟨⟨nb0, nb1, nb2, nb3, nb4⟩, ⟨nbf0, nbf1, nbf2, nbf3, nbf4⟩, nbz⟩ := iopen5 n2
  obtain ⟨⟨mb0, mb1, mb2, mb3, mb4⟩, ⟨mbf0, mbf1, mbf2, mbf3, mbf4⟩, mbz⟩ := iopen5 m2
  have n3 : ((w1.alloc (.cells #[.bool a, .bool b, .bool c, .bool d, .bool false] 26)).alloc (.cells #[.bool a', .bool b', .bool c', .bool d', .bool e'] 26)).heap[w1.heap.size]? = some (.cells #[.bool a, .bool b, .bool c, .bool d, .bool false] 26) := halloc (heap_alloc_new _ _) (.cells #[.bool a', .bool b', .bool c', .bool d', .bool e'] 26)
  have m3 : ((w1.alloc (.cells #[.bool a, .bool b, .bool c, .bool d, .bool false] 26)).alloc (.cells #[.bool a', .bool b', .bool c', .bool d', .bool e'] 26)).heap[w1.heap.size + 1]? = some (.cells #[.bool a', .bool b', .bool c', .bool d', .bool e'] 26) := by
    have := heap_alloc_new (w1.alloc (.cells #[.bool a, .bool b, .bool c, .bool d, .bool false] 26)) (.cells #[.bool a', .bool b', .bool c', .bool d', .bool e'] 26)
    simpa only [size_alloc] using this
  have q3 : ((w1.alloc (.cells #[.bool a, .bool b, .bool c, .bool d, .bool false] 26)).alloc (.cells #[.bool a', .bool b', .bool c', .bool d', .bool e'] 26)).heap[w.heap.size + 1 + 1]? = some (.cells #[.bool false, .bool false, .bool false, .bool false, .bool false] 26) := halloc (halloc hy2 (.cells #[.bool a, .bool b, .bool c, .bool d, .bool false] 26)) (.cells #[.bool a', .bool b', .bool c', .bool d', .bool e'] 26)
  have r3 : ((w1.alloc (.cells #[.bool a, .bool b, .bool c, .bool d, .bool false] 26)).alloc (.cells #[.bool a', .bool b', .bool c', .bool d', .bool e'] 26)).heap[w.heap.size + 1 + 1 + 1]? = some (.cells #[.bool false, .bool false, .bool false, .bool false, .bool false] 26) := halloc (halloc hy3 (.cells #[.bool a, .bool b, .bool c, .bool d, .bool false] 26)) (.cells #[.bool a', .bool b', .bool c', .bool d', .bool e'] 26)
  have D3 : Below w.heap.size w ((w1.alloc (.cells #[.bool a, .bool b, .bool c, .bool d, .bool false] 26)).alloc (.cells #[.bool a', .bool b', .bool c', .bool d', .bool e'] 26)) := below_alloc0 (below_alloc0 D _) _
  obtain ⟨⟨nd0, nd1, nd2, nd3, nd4⟩, ⟨ndf0, ndf1, ndf2, ndf3, ndf4⟩, ndz⟩ := iopen5 n3
  obtain ⟨⟨md0, md1, md2, md3, md4⟩, ⟨mdf0, mdf1, mdf2, mdf3, mdf4⟩, mdz⟩ := iopen5 m3
  obtain ⟨⟨qd0, qd1, qd2, qd3, qd4⟩, ⟨qdf0, qdf1, qdf2, qdf3, qdf4⟩, qdz⟩ := iopen5 q3
  obtain ⟨⟨rd0, rd1, rd2, rd3, rd4⟩, ⟨rdf0, rdf1, rdf2, rdf3, rdf4⟩, rdz⟩ := iopen5 r3
  go_wp2_with fail
  go_region
  all_goals (try go_wp2)
  all_goals (try simp only [Exit.inBlock, Exit.then])
  (refine bodyPost_cct rfl (w.heap.size + 1 + 1) (w.heap.size + 1 + 1 + 1) 26 26 #[.bool a, .bool b, .bool c, .bool d, .bool false] #[.bool a', .bool b', .bool c', .bool d', .bool e'] (0, 0) (0, 0) _ rfl rfl ?_ ?_ Try.underlying26 rfl info_it5 rfl rfl ⟨?_, ?_⟩)
  · refine heap_drew' ?_
    exact (put5_ne (w := put5 ((w1.alloc (.cells #[.bool a, .bool b, .bool c, .bool d, .bool false] 26)).alloc (.cells #[.bool a', .bool b', .bool c', .bool d', .bool e'] 26)) (w.heap.size + 1 + 1) a b c d false) (g := w.heap.size + 1 + 1 + 1) (k := w.heap.size + 1 + 1) a' b' c' d' e' (by omega)).trans (put5_at a b c d false q3)
  · refine heap_drew' ?_
    exact put5_at (w := put5 ((w1.alloc (.cells #[.bool a, .bool b, .bool c, .bool d, .bool false] 26)).alloc (.cells #[.bool a', .bool b', .bool c', .bool d', .bool e'] 26)) (w.heap.size + 1 + 1) a b c d false) (g := w.heap.size + 1 + 1 + 1) a' b' c' d' e' ((put5_ne (w := ((w1.alloc (.cells #[.bool a, .bool b, .bool c, .bool d, .bool false] 26)).alloc (.cells #[.bool a', .bool b', .bool c', .bool d', .bool e'] 26))) (g := w.heap.size + 1 + 1) (k := w.heap.size + 1 + 1 + 1) a b c d false (by omega)).trans r3)
  · rfl
  · exact (put5_below (put5_below D3 (w.heap.size + 1 + 1) (by omega) a b c d false) (w.heap.size + 1 + 1 + 1) (by omega) a' b' c' d' e').drew
set_option maxHeartbeats 16000000 in
set_option maxRecDepth 100000 in
theorem refAct_calls (a b c d e a' b' c' d' e' : Bool) (k : Int) (w : World) :
    Calls Try.prog 51 #[agI a b c d e, agI a' b' c' d' e', .int .i64 k] w fun x w' => x = .returned (.tuple #[vaIt (actI ⟨a, b, c, d, e⟩ ⟨a', b', c', d', e'⟩ k).1, vaIt (actI ⟨a, b, c, d, e⟩ ⟨a', b', c', d', e'⟩ k).2.1, .int .i64 (actI ⟨a, b, c, d, e⟩ ⟨a', b', c', d', e'⟩ k).2.2]) ∧ Below w.heap.size w w' := by
  cases hf : fitI ⟨a, b, c, d, e⟩ ⟨a', b', c', d', e'⟩ with
  | false =>
    have e1 : actI ⟨a, b, c, d, e⟩ ⟨a', b', c', d', e'⟩ k = (⟨a, b, c, d, e⟩, ⟨a', b', c', d', e'⟩, 1) := by unfold actI; rw [if_pos hf]
    rw [e1]
    exact refactU a b c d e a' b' c' d' e' k w hf
  | true =>
  by_cases h1 : k < 1
  · have e1 : actI ⟨a, b, c, d, e⟩ ⟨a', b', c', d', e'⟩ k = (⟨a, b, c, d, e⟩, ⟨a', b', c', d', e'⟩, 1) := by unfold actI; rw [if_neg (by rw [hf]; decide), if_neg (by omega), if_neg (by omega), if_neg (by omega), if_neg (by omega), if_neg (by omega), if_neg (by omega)]
    rw [e1]
    exact refactL a b c d e a' b' c' d' e' k h1 w hf
  by_cases h6 : 6 < k
  · have e1 : actI ⟨a, b, c, d, e⟩ ⟨a', b', c', d', e'⟩ k = (⟨a, b, c, d, e⟩, ⟨a', b', c', d', e'⟩, 1) := by unfold actI; rw [if_neg (by rw [hf]; decide), if_neg (by omega), if_neg (by omega), if_neg (by omega), if_neg (by omega), if_neg (by omega), if_neg (by omega)]
    rw [e1]
    exact refactG a b c d e a' b' c' d' e' k h6 w hf
  obtain rfl | rfl | rfl | rfl | rfl | rfl : k = 1 ∨ k = 2 ∨ k = 3 ∨ k = 4 ∨ k = 5 ∨ k = 6 := by omega
  · cases e with
    | true =>
      have e1 : actI ⟨a, b, c, d, true⟩ ⟨a', b', c', d', e'⟩ 1 = (⟨a, b, c, d, true⟩, ⟨a', b', c', d', e'⟩, 8) := by
        unfold actI
        rw [if_neg (by rw [hf]; decide)]
        unfold fitI at hf
        simp_all
      rw [e1]
      exact refact1_0 a b c d a' b' c' d' e' w hf
    | false =>
      cases e' with
      | true =>
        have e1 : actI ⟨a, b, c, d, false⟩ ⟨a', b', c', d', true⟩ 1 = (⟨a, b, c, d, false⟩, ⟨a', b', c', d', true⟩, 8) := by
          unfold actI
          rw [if_neg (by rw [hf]; decide)]
          unfold fitI at hf
          simp_all
        rw [e1]
        exact refact1_1 a b c d a' b' c' d' w hf
      | false =>
        cases a with
        | true =>
          have e1 : actI ⟨true, b, c, d, false⟩ ⟨a', b', c', d', false⟩ 1 = (⟨true, b, c, d, false⟩, ⟨a', b', c', d', false⟩, 7) := by
            unfold actI
            rw [if_neg (by rw [hf]; decide)]
            unfold fitI at hf
            simp_all
          rw [e1]
          exact refact1_2 b c d a' b' c' d' w hf
        | false =>
          cases c with
          | true =>
            have e1 : actI ⟨false, b, true, d, false⟩ ⟨a', b', c', d', false⟩ 1 = (⟨false, b, true, d, false⟩, ⟨a', b', c', d', false⟩, 7) := by
              unfold actI
              rw [if_neg (by rw [hf]; decide)]
              unfold fitI at hf
              simp_all
            rw [e1]
            exact refact1_3 b d a' b' c' d' w hf
          | false =>
            have e1 : actI ⟨false, b, false, d, false⟩ ⟨a', b', c', d', false⟩ 1 = (⟨false, b, true, d, false⟩, ⟨a', b', c', true, false⟩, 0) := by
              unfold actI
              rw [if_neg (by rw [hf]; decide)]
              unfold fitI at hf
              simp_all
            rw [e1]
            exact refact1_4 b d a' b' c' d' w hf
  · cases e with
    | true =>
      have e1 : actI ⟨a, b, c, d, true⟩ ⟨a', b', c', d', e'⟩ 2 = (⟨a, b, c, d, true⟩, ⟨a', b', c', d', e'⟩, 8) := by
        unfold actI
        rw [if_neg (by rw [hf]; decide)]
        unfold fitI at hf
        simp_all
      rw [e1]
      exact refact2_0 a b c d a' b' c' d' e' w hf
    | false =>
      cases e' with
      | true =>
        have e1 : actI ⟨a, b, c, d, false⟩ ⟨a', b', c', d', true⟩ 2 = (⟨a, b, c, d, false⟩, ⟨a', b', c', d', true⟩, 8) := by
          unfold actI
          rw [if_neg (by rw [hf]; decide)]
          unfold fitI at hf
          simp_all
        rw [e1]
        exact refact2_1 a b c d a' b' c' d' w hf
      | false =>
        cases d with
        | true =>
          have e1 : actI ⟨a, b, c, true, false⟩ ⟨a', b', c', d', false⟩ 2 = (⟨a, true, c, false, false⟩, ⟨true, b', false, d', false⟩, 0) := by
            unfold actI
            rw [if_neg (by rw [hf]; decide)]
            unfold fitI at hf
            simp_all
          rw [e1]
          exact refact2_3 a b c a' b' c' d' w hf
        | false =>
          have e1 : actI ⟨a, b, c, false, false⟩ ⟨a', b', c', d', false⟩ 2 = (⟨a, b, c, false, false⟩, ⟨a', b', c', d', false⟩, 7) := by
            unfold actI
            rw [if_neg (by rw [hf]; decide)]
            unfold fitI at hf
            simp_all
          rw [e1]
          exact refact2_2 a b c a' b' c' d' w hf
  · cases a with
    | true =>
      have e1 : actI ⟨true, b, c, d, e⟩ ⟨a', b', c', d', e'⟩ 3 = (⟨false, b, false, d, e⟩, ⟨a', false, c', false, e'⟩, 0) := by
        unfold actI
        rw [if_neg (by rw [hf]; decide)]
        unfold fitI at hf
        simp_all
      rw [e1]
      exact refact3_1 b c d e a' b' c' d' e' w hf
    | false =>
      cases c with
      | true =>
        have e1 : actI ⟨false, b, true, d, e⟩ ⟨a', b', c', d', e'⟩ 3 = (⟨false, b, false, d, e⟩, ⟨a', false, c', false, e'⟩, 0) := by
          unfold actI
          rw [if_neg (by rw [hf]; decide)]
          unfold fitI at hf
          simp_all
        rw [e1]
        exact refact3_2 b d e a' b' c' d' e' w hf
      | false =>
        have e1 : actI ⟨false, b, false, d, e⟩ ⟨a', b', c', d', e'⟩ 3 = (⟨false, b, false, d, e⟩, ⟨a', b', c', d', e'⟩, 7) := by
          unfold actI
          rw [if_neg (by rw [hf]; decide)]
          unfold fitI at hf
          simp_all
        rw [e1]
        exact refact3_0 b d e a' b' c' d' e' w hf
  · cases b with
    | true =>
      have e1 : actI ⟨a, true, c, d, e⟩ ⟨a', b', c', d', e'⟩ 4 = (⟨a, false, c, false, e⟩, ⟨false, b', false, d', e'⟩, 0) := by
        unfold actI
        rw [if_neg (by rw [hf]; decide)]
        unfold fitI at hf
        simp_all
      rw [e1]
      exact refact4_1 a c d e a' b' c' d' e' w hf
    | false =>
      cases d with
      | true =>
        have e1 : actI ⟨a, false, c, true, e⟩ ⟨a', b', c', d', e'⟩ 4 = (⟨a, false, c, false, e⟩, ⟨false, b', false, d', e'⟩, 0) := by
          unfold actI
          rw [if_neg (by rw [hf]; decide)]
          unfold fitI at hf
          simp_all
        rw [e1]
        exact refact4_2 a c e a' b' c' d' e' w hf
      | false =>
        have e1 : actI ⟨a, false, c, false, e⟩ ⟨a', b', c', d', e'⟩ 4 = (⟨a, false, c, false, e⟩, ⟨a', b', c', d', e'⟩, 7) := by
          unfold actI
          rw [if_neg (by rw [hf]; decide)]
          unfold fitI at hf
          simp_all
        rw [e1]
        exact refact4_0 a c e a' b' c' d' e' w hf
  · cases e with
    | true =>
      have e1 : actI ⟨a, b, c, d, true⟩ ⟨a', b', c', d', e'⟩ 5 = (⟨a, b, c, d, true⟩, ⟨a', b', c', d', e'⟩, 7) := by
        unfold actI
        rw [if_neg (by rw [hf]; decide)]
        unfold fitI at hf
        simp_all
      rw [e1]
      exact refact5_0 a b c d a' b' c' d' e' w hf
    | false =>
      have e1 : actI ⟨a, b, c, d, false⟩ ⟨a', b', c', d', e'⟩ 5 = (⟨a, b, c, d, true⟩, ⟨a', b', c', d', e'⟩, 0) := by
        unfold actI
        rw [if_neg (by rw [hf]; decide)]
        unfold fitI at hf
        simp_all
      rw [e1]
      exact refact5_1 a b c d a' b' c' d' e' w hf
  · cases e with
    | true =>
      have e1 : actI ⟨a, b, c, d, true⟩ ⟨a', b', c', d', e'⟩ 6 = (⟨a, b, c, d, false⟩, ⟨a', b', c', d', e'⟩, 0) := by
        unfold actI
        rw [if_neg (by rw [hf]; decide)]
        unfold fitI at hf
        simp_all
      rw [e1]
      exact refact6_1 a b c d a' b' c' d' e' w hf
    | false =>
      have e1 : actI ⟨a, b, c, d, false⟩ ⟨a', b', c', d', e'⟩ 6 = (⟨a, b, c, d, false⟩, ⟨a', b', c', d', e'⟩, 7) := by
        unfold actI
        rw [if_neg (by rw [hf]; decide)]
        unfold fitI at hf
        simp_all
      rw [e1]
      exact refact6_0 a b c d a' b' c' d' e' w hf
end Go.Proofs.Ytpmafghknafhaaa
