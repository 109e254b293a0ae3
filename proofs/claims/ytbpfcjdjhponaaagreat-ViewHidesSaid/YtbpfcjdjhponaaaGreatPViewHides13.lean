import Derived.Test.YtbpfcjdjhponaaaGreatPViewHides12
set_option linter.unusedVariables false
set_option linter.unusedSimpArgs false
namespace Go.Proofs.YtbpfcjdjhponaaaGreat
open Go.RowKit
open Sp
abbrev bi (a b c d e : Bool) : Obj := .cells #[.bool a, .bool b, .bool c, .bool d, .bool e] 103
theorem act_facts (w : World) (A B Z : Obj) : ((((w.alloc A).alloc B).alloc Z).alloc Z).heap[w.heap.size]? = some A ∧ ((((w.alloc A).alloc B).alloc Z).alloc Z).heap[w.heap.size + 1]? = some B ∧ ((((w.alloc A).alloc B).alloc Z).alloc Z).heap[w.heap.size + 1 + 1]? = some Z ∧ ((((w.alloc A).alloc B).alloc Z).alloc Z).heap[w.heap.size + 1 + 1 + 1]? = some Z ∧ Below w.heap.size w ((((w.alloc A).alloc B).alloc Z).alloc Z) := by
  have h1 := heap_alloc_new (w.alloc A) B
  have h2 := heap_alloc_new ((w.alloc A).alloc B) Z
  have h3 := heap_alloc_new (((w.alloc A).alloc B).alloc Z) Z
  simp only [size_alloc] at h1 h2 h3
  exact ⟨halloc (halloc (halloc (heap_alloc_new w A) B) Z) Z, halloc (halloc h1 Z) Z, halloc h2 Z, h3, below_alloc0 (below_alloc0 (below_alloc0 (below_box _) _) _) _⟩
set_option maxHeartbeats 16000000 in
set_option maxRecDepth 100000 in
theorem refactU (a b c d e a' b' c' d' e' : Bool) (k : Int) (w : World) (hf : Hid (fitI ⟨a, b, c, d, e⟩ ⟨a', b', c', d', e'⟩ = false)) :
    Calls Tryz.prog 158 #[.agg #[.bool a, .bool b, .bool c, .bool d, .bool e], .agg #[.bool a', .bool b', .bool c', .bool d', .bool e'], .int .i64 k] w fun x w' => x = .returned (.tuple #[.agg #[.bool a, .bool b, .bool c, .bool d, .bool e], .agg #[.bool a', .bool b', .bool c', .bool d', .bool e'], .int .i64 1]) ∧ Below w.heap.size w w' := by
  obtain ⟨hx0, hx1, hx2, hx3, DD⟩ := act_facts w (bi a b c d e) (bi a' b' c' d' e') (bi false false false false false)
  go_enter Tryz.func158, Tryz.ntmps158
  go_wp2_with fail
  with_reducible refine (re_ (refMayI_calls a b c d e a' b' c' d' e' _) (ret_bool hf.out)).mono ?_
  rintro x w1 ⟨rfl, b1⟩
  have hy0 := hcall hx0 b1
  have hy1 := hcall hx1 b1
  have hy2 := hcall hx2 b1
  have hy3 := hcall hx3 b1
  have D := below_call DD b1
  have hz0 : w.heap.size + 1 + 1 + 1 + 1 ≤ w1.heap.size := by
    have := b1.size
    simp only [size_alloc] at this
    exact this
  clear b1 DD hx0 hx1 hx2 hx3
  obtain ⟨⟨_, _, _, _, _⟩, ⟨_, _, _, _, _⟩, _⟩ := iopen5 hy2
  obtain ⟨⟨_, _, _, _, _⟩, ⟨_, _, _, _, _⟩, _⟩ := iopen5 hy3
  obtain ⟨⟨_, _, _, _, _⟩, ⟨_, _, _, _, _⟩, _⟩ := iopen5 hy0
  obtain ⟨⟨_, _, _, _, _⟩, ⟨_, _, _, _, _⟩, _⟩ := iopen5 hy1
  go_wp2_with fail
  go_region
  all_goals (try go_wp2)
  all_goals (try simp only [Exit.inBlock, Exit.then])
  (refine bodyPost_cct rfl (w.heap.size + 1 + 1) (w.heap.size + 1 + 1 + 1) 103 103 #[.bool a, .bool b, .bool c, .bool d, .bool e] #[.bool a', .bool b', .bool c', .bool d', .bool e'] (0, 0) (0, 0) _ rfl rfl ?_ ?_ Tryz.underlying103 rfl info_it5 rfl rfl ⟨?_, ?_⟩)
  · refine heap_drew' ?_
    exact (put5_ne (w := put5 w1 (w.heap.size + 1 + 1) a b c d e) (g := w.heap.size + 1 + 1 + 1) (k := w.heap.size + 1 + 1) a' b' c' d' e' (by omega)).trans (put5_at a b c d e hy2)
  · refine heap_drew' ?_
    exact put5_at (w := put5 w1 (w.heap.size + 1 + 1) a b c d e) (g := w.heap.size + 1 + 1 + 1) a' b' c' d' e' ((put5_ne (w := w1) (g := w.heap.size + 1 + 1) (k := w.heap.size + 1 + 1 + 1) a b c d e (by omega)).trans hy3)
  · rfl
  · exact (put5_below (put5_below D (w.heap.size + 1 + 1) (by omega) a b c d e) (w.heap.size + 1 + 1 + 1) (by omega) a' b' c' d' e').drew
set_option maxHeartbeats 16000000 in
set_option maxRecDepth 100000 in
theorem refactL (a b c d e a' b' c' d' e' : Bool) (k : Int) (hk : k < 1) (w : World) (hf : Hid (fitI ⟨a, b, c, d, e⟩ ⟨a', b', c', d', e'⟩ = true)) :
    Calls Tryz.prog 158 #[.agg #[.bool a, .bool b, .bool c, .bool d, .bool e], .agg #[.bool a', .bool b', .bool c', .bool d', .bool e'], .int .i64 k] w fun x w' => x = .returned (.tuple #[.agg #[.bool a, .bool b, .bool c, .bool d, .bool e], .agg #[.bool a', .bool b', .bool c', .bool d', .bool e'], .int .i64 1]) ∧ Below w.heap.size w w' := by
  obtain ⟨hx0, hx1, hx2, hx3, DD⟩ := act_facts w (bi a b c d e) (bi a' b' c' d' e') (bi false false false false false)
  go_enter Tryz.func158, Tryz.ntmps158
  go_wp2_with fail
  with_reducible refine (re_ (refMayI_calls a b c d e a' b' c' d' e' _) (ret_bool hf.out)).mono ?_
  rintro x w1 ⟨rfl, b1⟩
  have hy0 := hcall hx0 b1
  have hy1 := hcall hx1 b1
  have hy2 := hcall hx2 b1
  have hy3 := hcall hx3 b1
  have D := below_call DD b1
  have hz0 : w.heap.size + 1 + 1 + 1 + 1 ≤ w1.heap.size := by
    have := b1.size
    simp only [size_alloc] at this
    exact this
  clear b1 DD hx0 hx1 hx2 hx3
  obtain ⟨⟨_, _, _, _, _⟩, ⟨_, _, _, _, _⟩, _⟩ := iopen5 hy2
  obtain ⟨⟨_, _, _, _, _⟩, ⟨_, _, _, _, _⟩, _⟩ := iopen5 hy3
  obtain ⟨⟨_, _, _, _, _⟩, ⟨_, _, _, _, _⟩, _⟩ := iopen5 hy0
  obtain ⟨⟨_, _, _, _, _⟩, ⟨_, _, _, _, _⟩, _⟩ := iopen5 hy1
  go_wp2_with fail
  go_region
  all_goals (try go_wp2)
  all_goals (try simp only [Exit.inBlock, Exit.then])
  (refine bodyPost_cct rfl (w.heap.size + 1 + 1) (w.heap.size + 1 + 1 + 1) 103 103 #[.bool a, .bool b, .bool c, .bool d, .bool e] #[.bool a', .bool b', .bool c', .bool d', .bool e'] (0, 0) (0, 0) _ rfl rfl ?_ ?_ Tryz.underlying103 rfl info_it5 rfl rfl ⟨?_, ?_⟩)
  · refine heap_drew' ?_
    exact (put5_ne (w := put5 w1 (w.heap.size + 1 + 1) a b c d e) (g := w.heap.size + 1 + 1 + 1) (k := w.heap.size + 1 + 1) a' b' c' d' e' (by omega)).trans (put5_at a b c d e hy2)
  · refine heap_drew' ?_
    exact put5_at (w := put5 w1 (w.heap.size + 1 + 1) a b c d e) (g := w.heap.size + 1 + 1 + 1) a' b' c' d' e' ((put5_ne (w := w1) (g := w.heap.size + 1 + 1) (k := w.heap.size + 1 + 1 + 1) a b c d e (by omega)).trans hy3)
  · rfl
  · exact (put5_below (put5_below D (w.heap.size + 1 + 1) (by omega) a b c d e) (w.heap.size + 1 + 1 + 1) (by omega) a' b' c' d' e').drew
set_option maxHeartbeats 16000000 in
set_option maxRecDepth 100000 in
theorem refactG (a b c d e a' b' c' d' e' : Bool) (k : Int) (hk : 6 < k) (w : World) (hf : Hid (fitI ⟨a, b, c, d, e⟩ ⟨a', b', c', d', e'⟩ = true)) :
    Calls Tryz.prog 158 #[.agg #[.bool a, .bool b, .bool c, .bool d, .bool e], .agg #[.bool a', .bool b', .bool c', .bool d', .bool e'], .int .i64 k] w fun x w' => x = .returned (.tuple #[.agg #[.bool a, .bool b, .bool c, .bool d, .bool e], .agg #[.bool a', .bool b', .bool c', .bool d', .bool e'], .int .i64 1]) ∧ Below w.heap.size w w' := by
  obtain ⟨hx0, hx1, hx2, hx3, DD⟩ := act_facts w (bi a b c d e) (bi a' b' c' d' e') (bi false false false false false)
  go_enter Tryz.func158, Tryz.ntmps158
  go_wp2_with fail
  with_reducible refine (re_ (refMayI_calls a b c d e a' b' c' d' e' _) (ret_bool hf.out)).mono ?_
  rintro x w1 ⟨rfl, b1⟩
  have hy0 := hcall hx0 b1
  have hy1 := hcall hx1 b1
  have hy2 := hcall hx2 b1
  have hy3 := hcall hx3 b1
  have D := below_call DD b1
  have hz0 : w.heap.size + 1 + 1 + 1 + 1 ≤ w1.heap.size := by
    have := b1.size
    simp only [size_alloc] at this
    exact this
  clear b1 DD hx0 hx1 hx2 hx3
  obtain ⟨⟨_, _, _, _, _⟩, ⟨_, _, _, _, _⟩, _⟩ := iopen5 hy2
  obtain ⟨⟨_, _, _, _, _⟩, ⟨_, _, _, _, _⟩, _⟩ := iopen5 hy3
  obtain ⟨⟨_, _, _, _, _⟩, ⟨_, _, _, _, _⟩, _⟩ := iopen5 hy0
  obtain ⟨⟨_, _, _, _, _⟩, ⟨_, _, _, _, _⟩, _⟩ := iopen5 hy1
  go_wp2_with fail
  go_region
  all_goals (try go_wp2)
  all_goals (try simp only [Exit.inBlock, Exit.then])
  (refine bodyPost_cct rfl (w.heap.size + 1 + 1) (w.heap.size + 1 + 1 + 1) 103 103 #[.bool a, .bool b, .bool c, .bool d, .bool e] #[.bool a', .bool b', .bool c', .bool d', .bool e'] (0, 0) (0, 0) _ rfl rfl ?_ ?_ Tryz.underlying103 rfl info_it5 rfl rfl ⟨?_, ?_⟩)
  · refine heap_drew' ?_
    exact (put5_ne (w := put5 w1 (w.heap.size + 1 + 1) a b c d e) (g := w.heap.size + 1 + 1 + 1) (k := w.heap.size + 1 + 1) a' b' c' d' e' (by omega)).trans (put5_at a b c d e hy2)
  · refine heap_drew' ?_
    exact put5_at (w := put5 w1 (w.heap.size + 1 + 1) a b c d e) (g := w.heap.size + 1 + 1 + 1) a' b' c' d' e' ((put5_ne (w := w1) (g := w.heap.size + 1 + 1) (k := w.heap.size + 1 + 1 + 1) a b c d e (by omega)).trans hy3)
  · rfl
  · exact (put5_below (put5_below D (w.heap.size + 1 + 1) (by omega) a b c d e) (w.heap.size + 1 + 1 + 1) (by omega) a' b' c' d' e').drew
set_option maxHeartbeats 16000000 in
set_option maxRecDepth 100000 in
theorem refact1_0 (a b c d a' b' c' d' e' : Bool) (w : World) (hf : Hid (fitI ⟨a, b, c, d, true⟩ ⟨a', b', c', d', e'⟩ = true)) :
    Calls Tryz.prog 158 #[.agg #[.bool a, .bool b, .bool c, .bool d, .bool true], .agg #[.bool a', .bool b', .bool c', .bool d', .bool e'], .int .i64 1] w fun x w' => x = .returned (.tuple #[.agg #[.bool a, .bool b, .bool c, .bool d, .bool true], .agg #[.bool a', .bool b', .bool c', .bool d', .bool e'], .int .i64 8]) ∧ Below w.heap.size w w' := by
  obtain ⟨hx0, hx1, hx2, hx3, DD⟩ := act_facts w (bi a b c d true) (bi a' b' c' d' e') (bi false false false false false)
  go_enter Tryz.func158, Tryz.ntmps158
  go_wp2_with fail
  with_reducible refine (re_ (refMayI_calls a b c d true a' b' c' d' e' _) (ret_bool hf.out)).mono ?_
  rintro x w1 ⟨rfl, b1⟩
  have hy0 := hcall hx0 b1
  have hy1 := hcall hx1 b1
  have hy2 := hcall hx2 b1
  have hy3 := hcall hx3 b1
  have D := below_call DD b1
  have hz0 : w.heap.size + 1 + 1 + 1 + 1 ≤ w1.heap.size := by
    have := b1.size
    simp only [size_alloc] at this
    exact this
  clear b1 DD hx0 hx1 hx2 hx3
  obtain ⟨⟨_, _, _, _, _⟩, ⟨_, _, _, _, _⟩, _⟩ := iopen5 hy0
  have n1 : (w1.alloc (bi a b c d true)).heap[w1.heap.size]? = some (bi a b c d true) := heap_alloc_new _ _
  have s1 : (w1.alloc (bi a b c d true)).heap[w.heap.size + 1]? = some (bi a' b' c' d' e') := halloc hy1 (bi a b c d true)
  obtain ⟨⟨_, _, _, _, _⟩, ⟨_, _, _, _, _⟩, _⟩ := iopen5 s1
  have m2 : ((w1.alloc (bi a b c d true)).alloc (bi a' b' c' d' e')).heap[w1.heap.size + 1]? = some (bi a' b' c' d' e') := by
    have := heap_alloc_new (w1.alloc (bi a b c d true)) (bi a' b' c' d' e')
    simpa only [size_alloc] using this
  have p2 : ((w1.alloc (bi a b c d true)).alloc (bi a' b' c' d' e')).heap[w.heap.size]? = some (bi a b c d true) := halloc (halloc hy0 (bi a b c d true)) (bi a' b' c' d' e')
  have s2 : ((w1.alloc (bi a b c d true)).alloc (bi a' b' c' d' e')).heap[w.heap.size + 1]? = some (bi a' b' c' d' e') := halloc (halloc hy1 (bi a b c d true)) (bi a' b' c' d' e')
  have q2 : ((w1.alloc (bi a b c d true)).alloc (bi a' b' c' d' e')).heap[w.heap.size + 1 + 1]? = some (bi false false false false false) := halloc (halloc hy2 (bi a b c d true)) (bi a' b' c' d' e')
  have r2 : ((w1.alloc (bi a b c d true)).alloc (bi a' b' c' d' e')).heap[w.heap.size + 1 + 1 + 1]? = some (bi false false false false false) := halloc (halloc hy3 (bi a b c d true)) (bi a' b' c' d' e')
  have n2 : ((w1.alloc (bi a b c d true)).alloc (bi a' b' c' d' e')).heap[w1.heap.size]? = some (bi a b c d true) := halloc n1 (bi a' b' c' d' e')
  have D2 : Below w.heap.size w ((w1.alloc (bi a b c d true)).alloc (bi a' b' c' d' e')) := below_alloc0 (below_alloc0 D _) _
  obtain ⟨⟨_, _, _, _, _⟩, ⟨_, _, _, _, _⟩, _⟩ := iopen5 p2
  obtain ⟨⟨_, _, _, _, _⟩, ⟨_, _, _, _, _⟩, _⟩ := iopen5 s2
  obtain ⟨⟨_, _, _, _, _⟩, ⟨_, _, _, _, _⟩, _⟩ := iopen5 q2
  obtain ⟨⟨_, _, _, _, _⟩, ⟨_, _, _, _, _⟩, _⟩ := iopen5 r2
  go_wp2_with fail
  go_region
  all_goals (try go_wp2)
  all_goals (try simp only [Exit.inBlock, Exit.then])
  (refine bodyPost_cct rfl (w.heap.size + 1 + 1) (w.heap.size + 1 + 1 + 1) 103 103 #[.bool a, .bool b, .bool c, .bool d, .bool true] #[.bool a', .bool b', .bool c', .bool d', .bool e'] (0, 0) (0, 0) _ rfl rfl ?_ ?_ Tryz.underlying103 rfl info_it5 rfl rfl ⟨?_, ?_⟩)
  · refine heap_drew' ?_
    exact (put5_ne (w := put5 ((w1.alloc (bi a b c d true)).alloc (bi a' b' c' d' e')) (w.heap.size + 1 + 1) a b c d true) (g := w.heap.size + 1 + 1 + 1) (k := w.heap.size + 1 + 1) a' b' c' d' e' (by omega)).trans (put5_at a b c d true q2)
  · refine heap_drew' ?_
    exact put5_at (w := put5 ((w1.alloc (bi a b c d true)).alloc (bi a' b' c' d' e')) (w.heap.size + 1 + 1) a b c d true) (g := w.heap.size + 1 + 1 + 1) a' b' c' d' e' ((put5_ne (w := ((w1.alloc (bi a b c d true)).alloc (bi a' b' c' d' e'))) (g := w.heap.size + 1 + 1) (k := w.heap.size + 1 + 1 + 1) a b c d true (by omega)).trans r2)
  · rfl
  · exact (put5_below (put5_below D2 (w.heap.size + 1 + 1) (by omega) a b c d true) (w.heap.size + 1 + 1 + 1) (by omega) a' b' c' d' e').drew
set_option maxHeartbeats 16000000 in
set_option maxRecDepth 100000 in
theorem refact1_1 (a b c d a' b' c' d' : Bool) (w : World) (hf : Hid (fitI ⟨a, b, c, d, false⟩ ⟨a', b', c', d', true⟩ = true)) :
    Calls Tryz.prog 158 #[.agg #[.bool a, .bool b, .bool c, .bool d, .bool false], .agg #[.bool a', .bool b', .bool c', .bool d', .bool true], .int .i64 1] w fun x w' => x = .returned (.tuple #[.agg #[.bool a, .bool b, .bool c, .bool d, .bool false], .agg #[.bool a', .bool b', .bool c', .bool d', .bool true], .int .i64 8]) ∧ Below w.heap.size w w' := by
  obtain ⟨hx0, hx1, hx2, hx3, DD⟩ := act_facts w (bi a b c d false) (bi a' b' c' d' true) (bi false false false false false)
  go_enter Tryz.func158, Tryz.ntmps158
  go_wp2_with fail
  with_reducible refine (re_ (refMayI_calls a b c d false a' b' c' d' true _) (ret_bool hf.out)).mono ?_
  rintro x w1 ⟨rfl, b1⟩
  have hy0 := hcall hx0 b1
  have hy1 := hcall hx1 b1
  have hy2 := hcall hx2 b1
  have hy3 := hcall hx3 b1
  have D := below_call DD b1
  have hz0 : w.heap.size + 1 + 1 + 1 + 1 ≤ w1.heap.size := by
    have := b1.size
    simp only [size_alloc] at this
    exact this
  clear b1 DD hx0 hx1 hx2 hx3
  obtain ⟨⟨_, _, _, _, _⟩, ⟨_, _, _, _, _⟩, _⟩ := iopen5 hy0
  have n1 : (w1.alloc (bi a b c d false)).heap[w1.heap.size]? = some (bi a b c d false) := heap_alloc_new _ _
  have s1 : (w1.alloc (bi a b c d false)).heap[w.heap.size + 1]? = some (bi a' b' c' d' true) := halloc hy1 (bi a b c d false)
  obtain ⟨⟨_, _, _, _, _⟩, ⟨_, _, _, _, _⟩, _⟩ := iopen5 s1
  have m2 : ((w1.alloc (bi a b c d false)).alloc (bi a' b' c' d' true)).heap[w1.heap.size + 1]? = some (bi a' b' c' d' true) := by
    have := heap_alloc_new (w1.alloc (bi a b c d false)) (bi a' b' c' d' true)
    simpa only [size_alloc] using this
  have p2 : ((w1.alloc (bi a b c d false)).alloc (bi a' b' c' d' true)).heap[w.heap.size]? = some (bi a b c d false) := halloc (halloc hy0 (bi a b c d false)) (bi a' b' c' d' true)
  have s2 : ((w1.alloc (bi a b c d false)).alloc (bi a' b' c' d' true)).heap[w.heap.size + 1]? = some (bi a' b' c' d' true) := halloc (halloc hy1 (bi a b c d false)) (bi a' b' c' d' true)
  have q2 : ((w1.alloc (bi a b c d false)).alloc (bi a' b' c' d' true)).heap[w.heap.size + 1 + 1]? = some (bi false false false false false) := halloc (halloc hy2 (bi a b c d false)) (bi a' b' c' d' true)
  have r2 : ((w1.alloc (bi a b c d false)).alloc (bi a' b' c' d' true)).heap[w.heap.size + 1 + 1 + 1]? = some (bi false false false false false) := halloc (halloc hy3 (bi a b c d false)) (bi a' b' c' d' true)
  have n2 : ((w1.alloc (bi a b c d false)).alloc (bi a' b' c' d' true)).heap[w1.heap.size]? = some (bi a b c d false) := halloc n1 (bi a' b' c' d' true)
  have D2 : Below w.heap.size w ((w1.alloc (bi a b c d false)).alloc (bi a' b' c' d' true)) := below_alloc0 (below_alloc0 D _) _
  obtain ⟨⟨_, _, _, _, _⟩, ⟨_, _, _, _, _⟩, _⟩ := iopen5 p2
  obtain ⟨⟨_, _, _, _, _⟩, ⟨_, _, _, _, _⟩, _⟩ := iopen5 s2
  obtain ⟨⟨_, _, _, _, _⟩, ⟨_, _, _, _, _⟩, _⟩ := iopen5 q2
  obtain ⟨⟨_, _, _, _, _⟩, ⟨_, _, _, _, _⟩, _⟩ := iopen5 r2
  go_wp2_with fail
  go_region
  all_goals (try go_wp2)
  all_goals (try simp only [Exit.inBlock, Exit.then])
  (refine bodyPost_cct rfl (w.heap.size + 1 + 1) (w.heap.size + 1 + 1 + 1) 103 103 #[.bool a, .bool b, .bool c, .bool d, .bool false] #[.bool a', .bool b', .bool c', .bool d', .bool true] (0, 0) (0, 0) _ rfl rfl ?_ ?_ Tryz.underlying103 rfl info_it5 rfl rfl ⟨?_, ?_⟩)
  · refine heap_drew' ?_
    exact (put5_ne (w := put5 ((w1.alloc (bi a b c d false)).alloc (bi a' b' c' d' true)) (w.heap.size + 1 + 1) a b c d false) (g := w.heap.size + 1 + 1 + 1) (k := w.heap.size + 1 + 1) a' b' c' d' true (by omega)).trans (put5_at a b c d false q2)
  · refine heap_drew' ?_
    exact put5_at (w := put5 ((w1.alloc (bi a b c d false)).alloc (bi a' b' c' d' true)) (w.heap.size + 1 + 1) a b c d false) (g := w.heap.size + 1 + 1 + 1) a' b' c' d' true ((put5_ne (w := ((w1.alloc (bi a b c d false)).alloc (bi a' b' c' d' true))) (g := w.heap.size + 1 + 1) (k := w.heap.size + 1 + 1 + 1) a b c d false (by omega)).trans r2)
  · rfl
  · exact (put5_below (put5_below D2 (w.heap.size + 1 + 1) (by omega) a b c d false) (w.heap.size + 1 + 1 + 1) (by omega) a' b' c' d' true).drew
set_option maxHeartbeats 16000000 in
set_option maxRecDepth 100000 in
theorem refact1_2 (b c d a' b' c' d' : Bool) (w : World) (hf : Hid (fitI ⟨true, b, c, d, false⟩ ⟨a', b', c', d', false⟩ = true)) :
    Calls Tryz.prog 158 #[.agg #[.bool true, .bool b, .bool c, .bool d, .bool false], .agg #[.bool a', .bool b', .bool c', .bool d', .bool false], .int .i64 1] w fun x w' => x = .returned (.tuple #[.agg #[.bool true, .bool b, .bool c, .bool d, .bool false], .agg #[.bool a', .bool b', .bool c', .bool d', .bool false], .int .i64 7]) ∧ Below w.heap.size w w' := by
  obtain ⟨hx0, hx1, hx2, hx3, DD⟩ := act_facts w (bi true b c d false) (bi a' b' c' d' false) (bi false false false false false)
  go_enter Tryz.func158, Tryz.ntmps158
  go_wp2_with fail
  with_reducible refine (re_ (refMayI_calls true b c d false a' b' c' d' false _) (ret_bool hf.out)).mono ?_
  rintro x w1 ⟨rfl, b1⟩
  have hy0 := hcall hx0 b1
  have hy1 := hcall hx1 b1
  have hy2 := hcall hx2 b1
  have hy3 := hcall hx3 b1
  have D := below_call DD b1
  have hz0 : w.heap.size + 1 + 1 + 1 + 1 ≤ w1.heap.size := by
    have := b1.size
    simp only [size_alloc] at this
    exact this
  clear b1 DD hx0 hx1 hx2 hx3
  obtain ⟨⟨_, _, _, _, _⟩, ⟨_, _, _, _, _⟩, _⟩ := iopen5 hy0
  have n1 : (w1.alloc (bi true b c d false)).heap[w1.heap.size]? = some (bi true b c d false) := heap_alloc_new _ _
  have s1 : (w1.alloc (bi true b c d false)).heap[w.heap.size + 1]? = some (bi a' b' c' d' false) := halloc hy1 (bi true b c d false)
  obtain ⟨⟨_, _, _, _, _⟩, ⟨_, _, _, _, _⟩, _⟩ := iopen5 s1
  have m2 : ((w1.alloc (bi true b c d false)).alloc (bi a' b' c' d' false)).heap[w1.heap.size + 1]? = some (bi a' b' c' d' false) := by
    have := heap_alloc_new (w1.alloc (bi true b c d false)) (bi a' b' c' d' false)
    simpa only [size_alloc] using this
  have p2 : ((w1.alloc (bi true b c d false)).alloc (bi a' b' c' d' false)).heap[w.heap.size]? = some (bi true b c d false) := halloc (halloc hy0 (bi true b c d false)) (bi a' b' c' d' false)
  have s2 : ((w1.alloc (bi true b c d false)).alloc (bi a' b' c' d' false)).heap[w.heap.size + 1]? = some (bi a' b' c' d' false) := halloc (halloc hy1 (bi true b c d false)) (bi a' b' c' d' false)
  have q2 : ((w1.alloc (bi true b c d false)).alloc (bi a' b' c' d' false)).heap[w.heap.size + 1 + 1]? = some (bi false false false false false) := halloc (halloc hy2 (bi true b c d false)) (bi a' b' c' d' false)
  have r2 : ((w1.alloc (bi true b c d false)).alloc (bi a' b' c' d' false)).heap[w.heap.size + 1 + 1 + 1]? = some (bi false false false false false) := halloc (halloc hy3 (bi true b c d false)) (bi a' b' c' d' false)
  have n2 : ((w1.alloc (bi true b c d false)).alloc (bi a' b' c' d' false)).heap[w1.heap.size]? = some (bi true b c d false) := halloc n1 (bi a' b' c' d' false)
  have D2 : Below w.heap.size w ((w1.alloc (bi true b c d false)).alloc (bi a' b' c' d' false)) := below_alloc0 (below_alloc0 D _) _
  obtain ⟨⟨_, _, _, _, _⟩, ⟨_, _, _, _, _⟩, _⟩ := iopen5 p2
  obtain ⟨⟨_, _, _, _, _⟩, ⟨_, _, _, _, _⟩, _⟩ := iopen5 s2
  obtain ⟨⟨_, _, _, _, _⟩, ⟨_, _, _, _, _⟩, _⟩ := iopen5 q2
  obtain ⟨⟨_, _, _, _, _⟩, ⟨_, _, _, _, _⟩, _⟩ := iopen5 r2
  go_wp2_with fail
  go_region
  all_goals (try go_wp2)
  all_goals (try simp only [Exit.inBlock, Exit.then])
  (refine bodyPost_cct rfl (w.heap.size + 1 + 1) (w.heap.size + 1 + 1 + 1) 103 103 #[.bool true, .bool b, .bool c, .bool d, .bool false] #[.bool a', .bool b', .bool c', .bool d', .bool false] (0, 0) (0, 0) _ rfl rfl ?_ ?_ Tryz.underlying103 rfl info_it5 rfl rfl ⟨?_, ?_⟩)
  · refine heap_drew' ?_
    exact (put5_ne (w := put5 ((w1.alloc (bi true b c d false)).alloc (bi a' b' c' d' false)) (w.heap.size + 1 + 1) true b c d false) (g := w.heap.size + 1 + 1 + 1) (k := w.heap.size + 1 + 1) a' b' c' d' false (by omega)).trans (put5_at true b c d false q2)
  · refine heap_drew' ?_
    exact put5_at (w := put5 ((w1.alloc (bi true b c d false)).alloc (bi a' b' c' d' false)) (w.heap.size + 1 + 1) true b c d false) (g := w.heap.size + 1 + 1 + 1) a' b' c' d' false ((put5_ne (w := ((w1.alloc (bi true b c d false)).alloc (bi a' b' c' d' false))) (g := w.heap.size + 1 + 1) (k := w.heap.size + 1 + 1 + 1) true b c d false (by omega)).trans r2)
  · rfl
  · exact (put5_below (put5_below D2 (w.heap.size + 1 + 1) (by omega) true b c d false) (w.heap.size + 1 + 1 + 1) (by omega) a' b' c' d' false).drew
set_option maxHeartbeats 16000000 in
set_option maxRecDepth 100000 in
theorem refact1_3 (b d a' b' c' d' : Bool) (w : World) (hf : Hid (fitI ⟨false, b, true, d, false⟩ ⟨a', b', c', d', false⟩ = true)) :
    Calls Tryz.prog 158 #[.agg #[.bool false, .bool b, .bool true, .bool d, .bool false], .agg #[.bool a', .bool b', .bool c', .bool d', .bool false], .int .i64 1] w fun x w' => x = .returned (.tuple #[.agg #[.bool false, .bool b, .bool true, .bool d, .bool false], .agg #[.bool a', .bool b', .bool c', .bool d', .bool false], .int .i64 7]) ∧ Below w.heap.size w w' := by
  obtain ⟨hx0, hx1, hx2, hx3, DD⟩ := act_facts w (bi false b true d false) (bi a' b' c' d' false) (bi false false false false false)
  go_enter Tryz.func158, Tryz.ntmps158
  go_wp2_with fail
  with_reducible refine (re_ (refMayI_calls false b true d false a' b' c' d' false _) (ret_bool hf.out)).mono ?_
  rintro x w1 ⟨rfl, b1⟩
  have hy0 := hcall hx0 b1
  have hy1 := hcall hx1 b1
  have hy2 := hcall hx2 b1
  have hy3 := hcall hx3 b1
  have D := below_call DD b1
  have hz0 : w.heap.size + 1 + 1 + 1 + 1 ≤ w1.heap.size := by
    have := b1.size
    simp only [size_alloc] at this
    exact this
  clear b1 DD hx0 hx1 hx2 hx3
  obtain ⟨⟨_, _, _, _, _⟩, ⟨_, _, _, _, _⟩, _⟩ := iopen5 hy0
  have n1 : (w1.alloc (bi false b true d false)).heap[w1.heap.size]? = some (bi false b true d false) := heap_alloc_new _ _
  have s1 : (w1.alloc (bi false b true d false)).heap[w.heap.size + 1]? = some (bi a' b' c' d' false) := halloc hy1 (bi false b true d false)
  obtain ⟨⟨_, _, _, _, _⟩, ⟨_, _, _, _, _⟩, _⟩ := iopen5 s1
  have m2 : ((w1.alloc (bi false b true d false)).alloc (bi a' b' c' d' false)).heap[w1.heap.size + 1]? = some (bi a' b' c' d' false) := by
    have := heap_alloc_new (w1.alloc (bi false b true d false)) (bi a' b' c' d' false)
    simpa only [size_alloc] using this
  have p2 : ((w1.alloc (bi false b true d false)).alloc (bi a' b' c' d' false)).heap[w.heap.size]? = some (bi false b true d false) := halloc (halloc hy0 (bi false b true d false)) (bi a' b' c' d' false)
  have s2 : ((w1.alloc (bi false b true d false)).alloc (bi a' b' c' d' false)).heap[w.heap.size + 1]? = some (bi a' b' c' d' false) := halloc (halloc hy1 (bi false b true d false)) (bi a' b' c' d' false)
  have q2 : ((w1.alloc (bi false b true d false)).alloc (bi a' b' c' d' false)).heap[w.heap.size + 1 + 1]? = some (bi false false false false false) := halloc (halloc hy2 (bi false b true d false)) (bi a' b' c' d' false)
  have r2 : ((w1.alloc (bi false b true d false)).alloc (bi a' b' c' d' false)).heap[w.heap.size + 1 + 1 + 1]? = some (bi false false false false false) := halloc (halloc hy3 (bi false b true d false)) (bi a' b' c' d' false)
  have n2 : ((w1.alloc (bi false b true d false)).alloc (bi a' b' c' d' false)).heap[w1.heap.size]? = some (bi false b true d false) := halloc n1 (bi a' b' c' d' false)
  have D2 : Below w.heap.size w ((w1.alloc (bi false b true d false)).alloc (bi a' b' c' d' false)) := below_alloc0 (below_alloc0 D _) _
  obtain ⟨⟨_, _, _, _, _⟩, ⟨_, _, _, _, _⟩, _⟩ := iopen5 p2
  obtain ⟨⟨_, _, _, _, _⟩, ⟨_, _, _, _, _⟩, _⟩ := iopen5 s2
  obtain ⟨⟨_, _, _, _, _⟩, ⟨_, _, _, _, _⟩, _⟩ := iopen5 q2
  obtain ⟨⟨_, _, _, _, _⟩, ⟨_, _, _, _, _⟩, _⟩ := iopen5 r2
  go_wp2_with fail
  go_region
  all_goals (try go_wp2)
  all_goals (try simp only [Exit.inBlock, Exit.then])
  (refine bodyPost_cct rfl (w.heap.size + 1 + 1) (w.heap.size + 1 + 1 + 1) 103 103 #[.bool false, .bool b, .bool true, .bool d, .bool false] #[.bool a', .bool b', .bool c', .bool d', .bool false] (0, 0) (0, 0) _ rfl rfl ?_ ?_ Tryz.underlying103 rfl info_it5 rfl rfl ⟨?_, ?_⟩)
  · refine heap_drew' ?_
    exact (put5_ne (w := put5 ((w1.alloc (bi false b true d false)).alloc (bi a' b' c' d' false)) (w.heap.size + 1 + 1) false b true d false) (g := w.heap.size + 1 + 1 + 1) (k := w.heap.size + 1 + 1) a' b' c' d' false (by omega)).trans (put5_at false b true d false q2)
  · refine heap_drew' ?_
    exact put5_at (w := put5 ((w1.alloc (bi false b true d false)).alloc (bi a' b' c' d' false)) (w.heap.size + 1 + 1) false b true d false) (g := w.heap.size + 1 + 1 + 1) a' b' c' d' false ((put5_ne (w := ((w1.alloc (bi false b true d false)).alloc (bi a' b' c' d' false))) (g := w.heap.size + 1 + 1) (k := w.heap.size + 1 + 1 + 1) false b true d false (by omega)).trans r2)
  · rfl
  · exact (put5_below (put5_below D2 (w.heap.size + 1 + 1) (by omega) false b true d false) (w.heap.size + 1 + 1 + 1) (by omega) a' b' c' d' false).drew
set_option maxHeartbeats 16000000 in
set_option maxRecDepth 100000 in
theorem refact1_4 (b d a' b' c' d' : Bool) (w : World) (hf : Hid (fitI ⟨false, b, false, d, false⟩ ⟨a', b', c', d', false⟩ = true)) :
    Calls Tryz.prog 158 #[.agg #[.bool false, .bool b, .bool false, .bool d, .bool false], .agg #[.bool a', .bool b', .bool c', .bool d', .bool false], .int .i64 1] w fun x w' => x = .returned (.tuple #[.agg #[.bool false, .bool b, .bool true, .bool d, .bool false], .agg #[.bool a', .bool b', .bool c', .bool true, .bool false], .int .i64 0]) ∧ Below w.heap.size w w' := by
  obtain ⟨hx0, hx1, hx2, hx3, DD⟩ := act_facts w (bi false b false d false) (bi a' b' c' d' false) (bi false false false false false)
  go_enter Tryz.func158, Tryz.ntmps158
  go_wp2_with fail
  with_reducible refine (re_ (refMayI_calls false b false d false a' b' c' d' false _) (ret_bool hf.out)).mono ?_
  rintro x w1 ⟨rfl, b1⟩
  have hy0 := hcall hx0 b1
  have hy1 := hcall hx1 b1
  have hy2 := hcall hx2 b1
  have hy3 := hcall hx3 b1
  have D := below_call DD b1
  have hz0 : w.heap.size + 1 + 1 + 1 + 1 ≤ w1.heap.size := by
    have := b1.size
    simp only [size_alloc] at this
    exact this
  clear b1 DD hx0 hx1 hx2 hx3
  obtain ⟨⟨_, _, _, _, _⟩, ⟨_, _, _, _, _⟩, _⟩ := iopen5 hy0
  have n1 : (w1.alloc (bi false b false d false)).heap[w1.heap.size]? = some (bi false b false d false) := heap_alloc_new _ _
  have s1 : (w1.alloc (bi false b false d false)).heap[w.heap.size + 1]? = some (bi a' b' c' d' false) := halloc hy1 (bi false b false d false)
  obtain ⟨⟨_, _, _, _, _⟩, ⟨_, _, _, _, _⟩, _⟩ := iopen5 s1
  have m2 : ((w1.alloc (bi false b false d false)).alloc (bi a' b' c' d' false)).heap[w1.heap.size + 1]? = some (bi a' b' c' d' false) := by
    have := heap_alloc_new (w1.alloc (bi false b false d false)) (bi a' b' c' d' false)
    simpa only [size_alloc] using this
  have p2 : ((w1.alloc (bi false b false d false)).alloc (bi a' b' c' d' false)).heap[w.heap.size]? = some (bi false b false d false) := halloc (halloc hy0 (bi false b false d false)) (bi a' b' c' d' false)
  have s2 : ((w1.alloc (bi false b false d false)).alloc (bi a' b' c' d' false)).heap[w.heap.size + 1]? = some (bi a' b' c' d' false) := halloc (halloc hy1 (bi false b false d false)) (bi a' b' c' d' false)
  have q2 : ((w1.alloc (bi false b false d false)).alloc (bi a' b' c' d' false)).heap[w.heap.size + 1 + 1]? = some (bi false false false false false) := halloc (halloc hy2 (bi false b false d false)) (bi a' b' c' d' false)
  have r2 : ((w1.alloc (bi false b false d false)).alloc (bi a' b' c' d' false)).heap[w.heap.size + 1 + 1 + 1]? = some (bi false false false false false) := halloc (halloc hy3 (bi false b false d false)) (bi a' b' c' d' false)
  have n2 : ((w1.alloc (bi false b false d false)).alloc (bi a' b' c' d' false)).heap[w1.heap.size]? = some (bi false b false d false) := halloc n1 (bi a' b' c' d' false)
  have D2 : Below w.heap.size w ((w1.alloc (bi false b false d false)).alloc (bi a' b' c' d' false)) := below_alloc0 (below_alloc0 D _) _
  obtain ⟨⟨_, _, _, _, _⟩, ⟨_, _, _, _, _⟩, _⟩ := iopen5 p2
  obtain ⟨⟨_, _, _, _, _⟩, ⟨_, _, _, _, _⟩, _⟩ := iopen5 s2
  obtain ⟨⟨_, _, _, _, _⟩, ⟨_, _, _, _, _⟩, _⟩ := iopen5 n2
  obtain ⟨⟨_, _, _, _, _⟩, ⟨_, _, _, _, _⟩, _⟩ := iopen5 m2
  have n3 : ((w1.alloc (bi false b true d false)).alloc (bi a' b' c' true false)).heap[w1.heap.size]? = some (bi false b true d false) := halloc (heap_alloc_new _ _) (bi a' b' c' true false)
  have m3 : ((w1.alloc (bi false b true d false)).alloc (bi a' b' c' true false)).heap[w1.heap.size + 1]? = some (bi a' b' c' true false) := by
    have := heap_alloc_new (w1.alloc (bi false b true d false)) (bi a' b' c' true false)
    simpa only [size_alloc] using this
  have q3 : ((w1.alloc (bi false b true d false)).alloc (bi a' b' c' true false)).heap[w.heap.size + 1 + 1]? = some (bi false false false false false) := halloc (halloc hy2 (bi false b true d false)) (bi a' b' c' true false)
  have r3 : ((w1.alloc (bi false b true d false)).alloc (bi a' b' c' true false)).heap[w.heap.size + 1 + 1 + 1]? = some (bi false false false false false) := halloc (halloc hy3 (bi false b true d false)) (bi a' b' c' true false)
  have D3 : Below w.heap.size w ((w1.alloc (bi false b true d false)).alloc (bi a' b' c' true false)) := below_alloc0 (below_alloc0 D _) _
  obtain ⟨⟨_, _, _, _, _⟩, ⟨_, _, _, _, _⟩, _⟩ := iopen5 n3
  obtain ⟨⟨_, _, _, _, _⟩, ⟨_, _, _, _, _⟩, _⟩ := iopen5 m3
  obtain ⟨⟨_, _, _, _, _⟩, ⟨_, _, _, _, _⟩, _⟩ := iopen5 q3
  obtain ⟨⟨_, _, _, _, _⟩, ⟨_, _, _, _, _⟩, _⟩ := iopen5 r3
  go_wp2_with fail
  go_region
  all_goals (try go_wp2)
  all_goals (try simp only [Exit.inBlock, Exit.then])
  (refine bodyPost_cct rfl (w.heap.size + 1 + 1) (w.heap.size + 1 + 1 + 1) 103 103 #[.bool false, .bool b, .bool true, .bool d, .bool false] #[.bool a', .bool b', .bool c', .bool true, .bool false] (0, 0) (0, 0) _ rfl rfl ?_ ?_ Tryz.underlying103 rfl info_it5 rfl rfl ⟨?_, ?_⟩)
  · refine heap_drew' ?_
    exact (put5_ne (w := put5 ((w1.alloc (bi false b true d false)).alloc (bi a' b' c' true false)) (w.heap.size + 1 + 1) false b true d false) (g := w.heap.size + 1 + 1 + 1) (k := w.heap.size + 1 + 1) a' b' c' true false (by omega)).trans (put5_at false b true d false q3)
  · refine heap_drew' ?_
    exact put5_at (w := put5 ((w1.alloc (bi false b true d false)).alloc (bi a' b' c' true false)) (w.heap.size + 1 + 1) false b true d false) (g := w.heap.size + 1 + 1 + 1) a' b' c' true false ((put5_ne (w := ((w1.alloc (bi false b true d false)).alloc (bi a' b' c' true false))) (g := w.heap.size + 1 + 1) (k := w.heap.size + 1 + 1 + 1) false b true d false (by omega)).trans r3)
  · rfl
  · exact (put5_below (put5_below D3 (w.heap.size + 1 + 1) (by omega) false b true d false) (w.heap.size + 1 + 1 + 1) (by omega) a' b' c' true false).drew
set_option maxHeartbeats 16000000 in
set_option maxRecDepth 100000 in
theorem refact2_0 (a b c d a' b' c' d' e' : Bool) (w : World) (hf : Hid (fitI ⟨a, b, c, d, true⟩ ⟨a', b', c', d', e'⟩ = true)) :
    Calls Tryz.prog 158 #[.agg #[.bool a, .bool b, .bool c, .bool d, .bool true], .agg #[.bool a', .bool b', .bool c', .bool d', .bool e'], .int .i64 2] w fun x w' => x = .returned (.tuple #[.agg #[.bool a, .bool b, .bool c, .bool d, .bool true], .agg #[.bool a', .bool b', .bool c', .bool d', .bool e'], .int .i64 8]) ∧ Below w.heap.size w w' := by
  obtain ⟨hx0, hx1, hx2, hx3, DD⟩ := act_facts w (bi a b c d true) (bi a' b' c' d' e') (bi false false false false false)
  go_enter Tryz.func158, Tryz.ntmps158
  go_wp2_with fail
  with_reducible refine (re_ (refMayI_calls a b c d true a' b' c' d' e' _) (ret_bool hf.out)).mono ?_
  rintro x w1 ⟨rfl, b1⟩
  have hy0 := hcall hx0 b1
  have hy1 := hcall hx1 b1
  have hy2 := hcall hx2 b1
  have hy3 := hcall hx3 b1
  have D := below_call DD b1
  have hz0 : w.heap.size + 1 + 1 + 1 + 1 ≤ w1.heap.size := by
    have := b1.size
    simp only [size_alloc] at this
    exact this
  clear b1 DD hx0 hx1 hx2 hx3
  obtain ⟨⟨_, _, _, _, _⟩, ⟨_, _, _, _, _⟩, _⟩ := iopen5 hy0
  have n1 : (w1.alloc (bi a b c d true)).heap[w1.heap.size]? = some (bi a b c d true) := heap_alloc_new _ _
  have s1 : (w1.alloc (bi a b c d true)).heap[w.heap.size + 1]? = some (bi a' b' c' d' e') := halloc hy1 (bi a b c d true)
  obtain ⟨⟨_, _, _, _, _⟩, ⟨_, _, _, _, _⟩, _⟩ := iopen5 s1
  have m2 : ((w1.alloc (bi a b c d true)).alloc (bi a' b' c' d' e')).heap[w1.heap.size + 1]? = some (bi a' b' c' d' e') := by
    have := heap_alloc_new (w1.alloc (bi a b c d true)) (bi a' b' c' d' e')
    simpa only [size_alloc] using this
  have p2 : ((w1.alloc (bi a b c d true)).alloc (bi a' b' c' d' e')).heap[w.heap.size]? = some (bi a b c d true) := halloc (halloc hy0 (bi a b c d true)) (bi a' b' c' d' e')
  have s2 : ((w1.alloc (bi a b c d true)).alloc (bi a' b' c' d' e')).heap[w.heap.size + 1]? = some (bi a' b' c' d' e') := halloc (halloc hy1 (bi a b c d true)) (bi a' b' c' d' e')
  have q2 : ((w1.alloc (bi a b c d true)).alloc (bi a' b' c' d' e')).heap[w.heap.size + 1 + 1]? = some (bi false false false false false) := halloc (halloc hy2 (bi a b c d true)) (bi a' b' c' d' e')
  have r2 : ((w1.alloc (bi a b c d true)).alloc (bi a' b' c' d' e')).heap[w.heap.size + 1 + 1 + 1]? = some (bi false false false false false) := halloc (halloc hy3 (bi a b c d true)) (bi a' b' c' d' e')
  have n2 : ((w1.alloc (bi a b c d true)).alloc (bi a' b' c' d' e')).heap[w1.heap.size]? = some (bi a b c d true) := halloc n1 (bi a' b' c' d' e')
  have D2 : Below w.heap.size w ((w1.alloc (bi a b c d true)).alloc (bi a' b' c' d' e')) := below_alloc0 (below_alloc0 D _) _
  obtain ⟨⟨_, _, _, _, _⟩, ⟨_, _, _, _, _⟩, _⟩ := iopen5 p2
  obtain ⟨⟨_, _, _, _, _⟩, ⟨_, _, _, _, _⟩, _⟩ := iopen5 s2
  obtain ⟨⟨_, _, _, _, _⟩, ⟨_, _, _, _, _⟩, _⟩ := iopen5 q2
  obtain ⟨⟨_, _, _, _, _⟩, ⟨_, _, _, _, _⟩, _⟩ := iopen5 r2
  go_wp2_with fail
  go_region
  all_goals (try go_wp2)
  all_goals (try simp only [Exit.inBlock, Exit.then])
  (refine bodyPost_cct rfl (w.heap.size + 1 + 1) (w.heap.size + 1 + 1 + 1) 103 103 #[.bool a, .bool b, .bool c, .bool d, .bool true] #[.bool a', .bool b', .bool c', .bool d', .bool e'] (0, 0) (0, 0) _ rfl rfl ?_ ?_ Tryz.underlying103 rfl info_it5 rfl rfl ⟨?_, ?_⟩)
  · refine heap_drew' ?_
    exact (put5_ne (w := put5 ((w1.alloc (bi a b c d true)).alloc (bi a' b' c' d' e')) (w.heap.size + 1 + 1) a b c d true) (g := w.heap.size + 1 + 1 + 1) (k := w.heap.size + 1 + 1) a' b' c' d' e' (by omega)).trans (put5_at a b c d true q2)
  · refine heap_drew' ?_
    exact put5_at (w := put5 ((w1.alloc (bi a b c d true)).alloc (bi a' b' c' d' e')) (w.heap.size + 1 + 1) a b c d true) (g := w.heap.size + 1 + 1 + 1) a' b' c' d' e' ((put5_ne (w := ((w1.alloc (bi a b c d true)).alloc (bi a' b' c' d' e'))) (g := w.heap.size + 1 + 1) (k := w.heap.size + 1 + 1 + 1) a b c d true (by omega)).trans r2)
  · rfl
  · exact (put5_below (put5_below D2 (w.heap.size + 1 + 1) (by omega) a b c d true) (w.heap.size + 1 + 1 + 1) (by omega) a' b' c' d' e').drew
set_option maxHeartbeats 16000000 in
set_option maxRecDepth 100000 in
theorem refact2_1 (a b c d a' b' c' d' : Bool) (w : World) (hf : Hid (fitI ⟨a, b, c, d, false⟩ ⟨a', b', c', d', true⟩ = true)) :
    Calls Tryz.prog 158 #[.agg #[.bool a, .bool b, .bool c, .bool d, .bool false], .agg #[.bool a', .bool b', .bool c', .bool d', .bool true], .int .i64 2] w fun x w' => x = .returned (.tuple #[.agg #[.bool a, .bool b, .bool c, .bool d, .bool false], .agg #[.bool a', .bool b', .bool c', .bool d', .bool true], .int .i64 8]) ∧ Below w.heap.size w w' := by
  obtain ⟨hx0, hx1, hx2, hx3, DD⟩ := act_facts w (bi a b c d false) (bi a' b' c' d' true) (bi false false false false false)
  go_enter Tryz.func158, Tryz.ntmps158
  go_wp2_with fail
  with_reducible refine (re_ (refMayI_calls a b c d false a' b' c' d' true _) (ret_bool hf.out)).mono ?_
  rintro x w1 ⟨rfl, b1⟩
  have hy0 := hcall hx0 b1
  have hy1 := hcall hx1 b1
  have hy2 := hcall hx2 b1
  have hy3 := hcall hx3 b1
  have D := below_call DD b1
  have hz0 : w.heap.size + 1 + 1 + 1 + 1 ≤ w1.heap.size := by
    have := b1.size
    simp only [size_alloc] at this
    exact this
  clear b1 DD hx0 hx1 hx2 hx3
  obtain ⟨⟨_, _, _, _, _⟩, ⟨_, _, _, _, _⟩, _⟩ := iopen5 hy0
  have n1 : (w1.alloc (bi a b c d false)).heap[w1.heap.size]? = some (bi a b c d false) := heap_alloc_new _ _
  have s1 : (w1.alloc (bi a b c d false)).heap[w.heap.size + 1]? = some (bi a' b' c' d' true) := halloc hy1 (bi a b c d false)
  obtain ⟨⟨_, _, _, _, _⟩, ⟨_, _, _, _, _⟩, _⟩ := iopen5 s1
  have m2 : ((w1.alloc (bi a b c d false)).alloc (bi a' b' c' d' true)).heap[w1.heap.size + 1]? = some (bi a' b' c' d' true) := by
    have := heap_alloc_new (w1.alloc (bi a b c d false)) (bi a' b' c' d' true)
    simpa only [size_alloc] using this
  have p2 : ((w1.alloc (bi a b c d false)).alloc (bi a' b' c' d' true)).heap[w.heap.size]? = some (bi a b c d false) := halloc (halloc hy0 (bi a b c d false)) (bi a' b' c' d' true)
  have s2 : ((w1.alloc (bi a b c d false)).alloc (bi a' b' c' d' true)).heap[w.heap.size + 1]? = some (bi a' b' c' d' true) := halloc (halloc hy1 (bi a b c d false)) (bi a' b' c' d' true)
  have q2 : ((w1.alloc (bi a b c d false)).alloc (bi a' b' c' d' true)).heap[w.heap.size + 1 + 1]? = some (bi false false false false false) := halloc (halloc hy2 (bi a b c d false)) (bi a' b' c' d' true)
  have r2 : ((w1.alloc (bi a b c d false)).alloc (bi a' b' c' d' true)).heap[w.heap.size + 1 + 1 + 1]? = some (bi false false false false false) := halloc (halloc hy3 (bi a b c d false)) (bi a' b' c' d' true)
  have n2 : ((w1.alloc (bi a b c d false)).alloc (bi a' b' c' d' true)).heap[w1.heap.size]? = some (bi a b c d false) := halloc n1 (bi a' b' c' d' true)
  have D2 : Below w.heap.size w ((w1.alloc (bi a b c d false)).alloc (bi a' b' c' d' true)) := below_alloc0 (below_alloc0 D _) _
  obtain ⟨⟨_, _, _, _, _⟩, ⟨_, _, _, _, _⟩, _⟩ := iopen5 p2
  obtain ⟨⟨_, _, _, _, _⟩, ⟨_, _, _, _, _⟩, _⟩ := iopen5 s2
  obtain ⟨⟨_, _, _, _, _⟩, ⟨_, _, _, _, _⟩, _⟩ := iopen5 q2
  obtain ⟨⟨_, _, _, _, _⟩, ⟨_, _, _, _, _⟩, _⟩ := iopen5 r2
  go_wp2_with fail
  go_region
  all_goals (try go_wp2)
  all_goals (try simp only [Exit.inBlock, Exit.then])
  (refine bodyPost_cct rfl (w.heap.size + 1 + 1) (w.heap.size + 1 + 1 + 1) 103 103 #[.bool a, .bool b, .bool c, .bool d, .bool false] #[.bool a', .bool b', .bool c', .bool d', .bool true] (0, 0) (0, 0) _ rfl rfl ?_ ?_ Tryz.underlying103 rfl info_it5 rfl rfl ⟨?_, ?_⟩)
  · refine heap_drew' ?_
    exact (put5_ne (w := put5 ((w1.alloc (bi a b c d false)).alloc (bi a' b' c' d' true)) (w.heap.size + 1 + 1) a b c d false) (g := w.heap.size + 1 + 1 + 1) (k := w.heap.size + 1 + 1) a' b' c' d' true (by omega)).trans (put5_at a b c d false q2)
  · refine heap_drew' ?_
    exact put5_at (w := put5 ((w1.alloc (bi a b c d false)).alloc (bi a' b' c' d' true)) (w.heap.size + 1 + 1) a b c d false) (g := w.heap.size + 1 + 1 + 1) a' b' c' d' true ((put5_ne (w := ((w1.alloc (bi a b c d false)).alloc (bi a' b' c' d' true))) (g := w.heap.size + 1 + 1) (k := w.heap.size + 1 + 1 + 1) a b c d false (by omega)).trans r2)
  · rfl
  · exact (put5_below (put5_below D2 (w.heap.size + 1 + 1) (by omega) a b c d false) (w.heap.size + 1 + 1 + 1) (by omega) a' b' c' d' true).drew
set_option maxHeartbeats 16000000 in
set_option maxRecDepth 100000 in
theorem refact2_2 (a b c a' b' c' d' : Bool) (w : World) (hf : Hid (fitI ⟨a, b, c, false, false⟩ ⟨a', b', c', d', false⟩ = true)) :
    Calls Tryz.prog 158 #[.agg #[.bool a, .bool b, .bool c, .bool false, .bool false], .agg #[.bool a', .bool b', .bool c', .bool d', .bool false], .int .i64 2] w fun x w' => x = .returned (.tuple #[.agg #[.bool a, .bool b, .bool c, .bool false, .bool false], .agg #[.bool a', .bool b', .bool c', .bool d', .bool false], .int .i64 7]) ∧ Below w.heap.size w w' := by
  obtain ⟨hx0, hx1, hx2, hx3, DD⟩ := act_facts w (bi a b c false false) (bi a' b' c' d' false) (bi false false false false false)
  go_enter Tryz.func158, Tryz.ntmps158
  go_wp2_with fail
  with_reducible refine (re_ (refMayI_calls a b c false false a' b' c' d' false _) (ret_bool hf.out)).mono ?_
  rintro x w1 ⟨rfl, b1⟩
  have hy0 := hcall hx0 b1
  have hy1 := hcall hx1 b1
  have hy2 := hcall hx2 b1
  have hy3 := hcall hx3 b1
  have D := below_call DD b1
  have hz0 : w.heap.size + 1 + 1 + 1 + 1 ≤ w1.heap.size := by
    have := b1.size
    simp only [size_alloc] at this
    exact this
  clear b1 DD hx0 hx1 hx2 hx3
  obtain ⟨⟨_, _, _, _, _⟩, ⟨_, _, _, _, _⟩, _⟩ := iopen5 hy0
  have n1 : (w1.alloc (bi a b c false false)).heap[w1.heap.size]? = some (bi a b c false false) := heap_alloc_new _ _
  have s1 : (w1.alloc (bi a b c false false)).heap[w.heap.size + 1]? = some (bi a' b' c' d' false) := halloc hy1 (bi a b c false false)
  obtain ⟨⟨_, _, _, _, _⟩, ⟨_, _, _, _, _⟩, _⟩ := iopen5 s1
  have m2 : ((w1.alloc (bi a b c false false)).alloc (bi a' b' c' d' false)).heap[w1.heap.size + 1]? = some (bi a' b' c' d' false) := by
    have := heap_alloc_new (w1.alloc (bi a b c false false)) (bi a' b' c' d' false)
    simpa only [size_alloc] using this
  have p2 : ((w1.alloc (bi a b c false false)).alloc (bi a' b' c' d' false)).heap[w.heap.size]? = some (bi a b c false false) := halloc (halloc hy0 (bi a b c false false)) (bi a' b' c' d' false)
  have s2 : ((w1.alloc (bi a b c false false)).alloc (bi a' b' c' d' false)).heap[w.heap.size + 1]? = some (bi a' b' c' d' false) := halloc (halloc hy1 (bi a b c false false)) (bi a' b' c' d' false)
  have q2 : ((w1.alloc (bi a b c false false)).alloc (bi a' b' c' d' false)).heap[w.heap.size + 1 + 1]? = some (bi false false false false false) := halloc (halloc hy2 (bi a b c false false)) (bi a' b' c' d' false)
  have r2 : ((w1.alloc (bi a b c false false)).alloc (bi a' b' c' d' false)).heap[w.heap.size + 1 + 1 + 1]? = some (bi false false false false false) := halloc (halloc hy3 (bi a b c false false)) (bi a' b' c' d' false)
  have n2 : ((w1.alloc (bi a b c false false)).alloc (bi a' b' c' d' false)).heap[w1.heap.size]? = some (bi a b c false false) := halloc n1 (bi a' b' c' d' false)
  have D2 : Below w.heap.size w ((w1.alloc (bi a b c false false)).alloc (bi a' b' c' d' false)) := below_alloc0 (below_alloc0 D _) _
  obtain ⟨⟨_, _, _, _, _⟩, ⟨_, _, _, _, _⟩, _⟩ := iopen5 p2
  obtain ⟨⟨_, _, _, _, _⟩, ⟨_, _, _, _, _⟩, _⟩ := iopen5 s2
  obtain ⟨⟨_, _, _, _, _⟩, ⟨_, _, _, _, _⟩, _⟩ := iopen5 q2
  obtain ⟨⟨_, _, _, _, _⟩, ⟨_, _, _, _, _⟩, _⟩ := iopen5 r2
  go_wp2_with fail
  go_region
  all_goals (try go_wp2)
  all_goals (try simp only [Exit.inBlock, Exit.then])
  (refine bodyPost_cct rfl (w.heap.size + 1 + 1) (w.heap.size + 1 + 1 + 1) 103 103 #[.bool a, .bool b, .bool c, .bool false, .bool false] #[.bool a', .bool b', .bool c', .bool d', .bool false] (0, 0) (0, 0) _ rfl rfl ?_ ?_ Tryz.underlying103 rfl info_it5 rfl rfl ⟨?_, ?_⟩)
  · refine heap_drew' ?_
    exact (put5_ne (w := put5 ((w1.alloc (bi a b c false false)).alloc (bi a' b' c' d' false)) (w.heap.size + 1 + 1) a b c false false) (g := w.heap.size + 1 + 1 + 1) (k := w.heap.size + 1 + 1) a' b' c' d' false (by omega)).trans (put5_at a b c false false q2)
  · refine heap_drew' ?_
    exact put5_at (w := put5 ((w1.alloc (bi a b c false false)).alloc (bi a' b' c' d' false)) (w.heap.size + 1 + 1) a b c false false) (g := w.heap.size + 1 + 1 + 1) a' b' c' d' false ((put5_ne (w := ((w1.alloc (bi a b c false false)).alloc (bi a' b' c' d' false))) (g := w.heap.size + 1 + 1) (k := w.heap.size + 1 + 1 + 1) a b c false false (by omega)).trans r2)
  · rfl
  · exact (put5_below (put5_below D2 (w.heap.size + 1 + 1) (by omega) a b c false false) (w.heap.size + 1 + 1 + 1) (by omega) a' b' c' d' false).drew
set_option maxHeartbeats 16000000 in
set_option maxRecDepth 100000 in
theorem refact2_3 (a b c a' b' c' d' : Bool) (w : World) (hf : Hid (fitI ⟨a, b, c, true, false⟩ ⟨a', b', c', d', false⟩ = true)) :
    Calls Tryz.prog 158 #[.agg #[.bool a, .bool b, .bool c, .bool true, .bool false], .agg #[.bool a', .bool b', .bool c', .bool d', .bool false], .int .i64 2] w fun x w' => x = .returned (.tuple #[.agg #[.bool a, .bool true, .bool c, .bool false, .bool false], .agg #[.bool true, .bool b', .bool false, .bool d', .bool false], .int .i64 0]) ∧ Below w.heap.size w w' := by
  obtain ⟨hx0, hx1, hx2, hx3, DD⟩ := act_facts w (bi a b c true false) (bi a' b' c' d' false) (bi false false false false false)
  go_enter Tryz.func158, Tryz.ntmps158
  go_wp2_with fail
  with_reducible refine (re_ (refMayI_calls a b c true false a' b' c' d' false _) (ret_bool hf.out)).mono ?_
  rintro x w1 ⟨rfl, b1⟩
  have hy0 := hcall hx0 b1
  have hy1 := hcall hx1 b1
  have hy2 := hcall hx2 b1
  have hy3 := hcall hx3 b1
  have D := below_call DD b1
  have hz0 : w.heap.size + 1 + 1 + 1 + 1 ≤ w1.heap.size := by
    have := b1.size
    simp only [size_alloc] at this
    exact this
  clear b1 DD hx0 hx1 hx2 hx3
  obtain ⟨⟨_, _, _, _, _⟩, ⟨_, _, _, _, _⟩, _⟩ := iopen5 hy0
  have n1 : (w1.alloc (bi a b c true false)).heap[w1.heap.size]? = some (bi a b c true false) := heap_alloc_new _ _
  have s1 : (w1.alloc (bi a b c true false)).heap[w.heap.size + 1]? = some (bi a' b' c' d' false) := halloc hy1 (bi a b c true false)
  obtain ⟨⟨_, _, _, _, _⟩, ⟨_, _, _, _, _⟩, _⟩ := iopen5 s1
  have m2 : ((w1.alloc (bi a b c true false)).alloc (bi a' b' c' d' false)).heap[w1.heap.size + 1]? = some (bi a' b' c' d' false) := by
    have := heap_alloc_new (w1.alloc (bi a b c true false)) (bi a' b' c' d' false)
    simpa only [size_alloc] using this
  have p2 : ((w1.alloc (bi a b c true false)).alloc (bi a' b' c' d' false)).heap[w.heap.size]? = some (bi a b c true false) := halloc (halloc hy0 (bi a b c true false)) (bi a' b' c' d' false)
  have s2 : ((w1.alloc (bi a b c true false)).alloc (bi a' b' c' d' false)).heap[w.heap.size + 1]? = some (bi a' b' c' d' false) := halloc (halloc hy1 (bi a b c true false)) (bi a' b' c' d' false)
  have q2 : ((w1.alloc (bi a b c true false)).alloc (bi a' b' c' d' false)).heap[w.heap.size + 1 + 1]? = some (bi false false false false false) := halloc (halloc hy2 (bi a b c true false)) (bi a' b' c' d' false)
  have r2 : ((w1.alloc (bi a b c true false)).alloc (bi a' b' c' d' false)).heap[w.heap.size + 1 + 1 + 1]? = some (bi false false false false false) := halloc (halloc hy3 (bi a b c true false)) (bi a' b' c' d' false)
  have n2 : ((w1.alloc (bi a b c true false)).alloc (bi a' b' c' d' false)).heap[w1.heap.size]? = some (bi a b c true false) := halloc n1 (bi a' b' c' d' false)
  have D2 : Below w.heap.size w ((w1.alloc (bi a b c true false)).alloc (bi a' b' c' d' false)) := below_alloc0 (below_alloc0 D _) _
  obtain ⟨⟨_, _, _, _, _⟩, ⟨_, _, _, _, _⟩, _⟩ := iopen5 p2
  obtain ⟨⟨_, _, _, _, _⟩, ⟨_, _, _, _, _⟩, _⟩ := iopen5 s2
  obtain ⟨⟨_, _, _, _, _⟩, ⟨_, _, _, _, _⟩, _⟩ := iopen5 n2
  obtain ⟨⟨_, _, _, _, _⟩, ⟨_, _, _, _, _⟩, _⟩ := iopen5 m2
  have n3 : ((w1.alloc (bi a true c false false)).alloc (bi true b' false d' false)).heap[w1.heap.size]? = some (bi a true c false false) := halloc (heap_alloc_new _ _) (bi true b' false d' false)
  have m3 : ((w1.alloc (bi a true c false false)).alloc (bi true b' false d' false)).heap[w1.heap.size + 1]? = some (bi true b' false d' false) := by
    have := heap_alloc_new (w1.alloc (bi a true c false false)) (bi true b' false d' false)
    simpa only [size_alloc] using this
  have q3 : ((w1.alloc (bi a true c false false)).alloc (bi true b' false d' false)).heap[w.heap.size + 1 + 1]? = some (bi false false false false false) := halloc (halloc hy2 (bi a true c false false)) (bi true b' false d' false)
  have r3 : ((w1.alloc (bi a true c false false)).alloc (bi true b' false d' false)).heap[w.heap.size + 1 + 1 + 1]? = some (bi false false false false false) := halloc (halloc hy3 (bi a true c false false)) (bi true b' false d' false)
  have D3 : Below w.heap.size w ((w1.alloc (bi a true c false false)).alloc (bi true b' false d' false)) := below_alloc0 (below_alloc0 D _) _
  obtain ⟨⟨_, _, _, _, _⟩, ⟨_, _, _, _, _⟩, _⟩ := iopen5 n3
  obtain ⟨⟨_, _, _, _, _⟩, ⟨_, _, _, _, _⟩, _⟩ := iopen5 m3
  obtain ⟨⟨_, _, _, _, _⟩, ⟨_, _, _, _, _⟩, _⟩ := iopen5 q3
  obtain ⟨⟨_, _, _, _, _⟩, ⟨_, _, _, _, _⟩, _⟩ := iopen5 r3
  go_wp2_with fail
  go_region
  all_goals (try go_wp2)
  all_goals (try simp only [Exit.inBlock, Exit.then])
  (refine bodyPost_cct rfl (w.heap.size + 1 + 1) (w.heap.size + 1 + 1 + 1) 103 103 #[.bool a, .bool true, .bool c, .bool false, .bool false] #[.bool true, .bool b', .bool false, .bool d', .bool false] (0, 0) (0, 0) _ rfl rfl ?_ ?_ Tryz.underlying103 rfl info_it5 rfl rfl ⟨?_, ?_⟩)
  · refine heap_drew' ?_
    exact (put5_ne (w := put5 ((w1.alloc (bi a true c false false)).alloc (bi true b' false d' false)) (w.heap.size + 1 + 1) a true c false false) (g := w.heap.size + 1 + 1 + 1) (k := w.heap.size + 1 + 1) true b' false d' false (by omega)).trans (put5_at a true c false false q3)
  · refine heap_drew' ?_
    exact put5_at (w := put5 ((w1.alloc (bi a true c false false)).alloc (bi true b' false d' false)) (w.heap.size + 1 + 1) a true c false false) (g := w.heap.size + 1 + 1 + 1) true b' false d' false ((put5_ne (w := ((w1.alloc (bi a true c false false)).alloc (bi true b' false d' false))) (g := w.heap.size + 1 + 1) (k := w.heap.size + 1 + 1 + 1) a true c false false (by omega)).trans r3)
  · rfl
  · exact (put5_below (put5_below D3 (w.heap.size + 1 + 1) (by omega) a true c false false) (w.heap.size + 1 + 1 + 1) (by omega) true b' false d' false).drew
set_option maxHeartbeats 16000000 in
set_option maxRecDepth 100000 in
theorem refact3_0 (b d e a' b' c' d' e' : Bool) (w : World) (hf : Hid (fitI ⟨false, b, false, d, e⟩ ⟨a', b', c', d', e'⟩ = true)) :
    Calls Tryz.prog 158 #[.agg #[.bool false, .bool b, .bool false, .bool d, .bool e], .agg #[.bool a', .bool b', .bool c', .bool d', .bool e'], .int .i64 3] w fun x w' => x = .returned (.tuple #[.agg #[.bool false, .bool b, .bool false, .bool d, .bool e], .agg #[.bool a', .bool b', .bool c', .bool d', .bool e'], .int .i64 7]) ∧ Below w.heap.size w w' := by
  obtain ⟨hx0, hx1, hx2, hx3, DD⟩ := act_facts w (bi false b false d e) (bi a' b' c' d' e') (bi false false false false false)
  go_enter Tryz.func158, Tryz.ntmps158
  go_wp2_with fail
  with_reducible refine (re_ (refMayI_calls false b false d e a' b' c' d' e' _) (ret_bool hf.out)).mono ?_
  rintro x w1 ⟨rfl, b1⟩
  have hy0 := hcall hx0 b1
  have hy1 := hcall hx1 b1
  have hy2 := hcall hx2 b1
  have hy3 := hcall hx3 b1
  have D := below_call DD b1
  have hz0 : w.heap.size + 1 + 1 + 1 + 1 ≤ w1.heap.size := by
    have := b1.size
    simp only [size_alloc] at this
    exact this
  clear b1 DD hx0 hx1 hx2 hx3
  obtain ⟨⟨_, _, _, _, _⟩, ⟨_, _, _, _, _⟩, _⟩ := iopen5 hy0
  have n1 : (w1.alloc (bi false b false d e)).heap[w1.heap.size]? = some (bi false b false d e) := heap_alloc_new _ _
  have s1 : (w1.alloc (bi false b false d e)).heap[w.heap.size + 1]? = some (bi a' b' c' d' e') := halloc hy1 (bi false b false d e)
  obtain ⟨⟨_, _, _, _, _⟩, ⟨_, _, _, _, _⟩, _⟩ := iopen5 s1
  have m2 : ((w1.alloc (bi false b false d e)).alloc (bi a' b' c' d' e')).heap[w1.heap.size + 1]? = some (bi a' b' c' d' e') := by
    have := heap_alloc_new (w1.alloc (bi false b false d e)) (bi a' b' c' d' e')
    simpa only [size_alloc] using this
  have p2 : ((w1.alloc (bi false b false d e)).alloc (bi a' b' c' d' e')).heap[w.heap.size]? = some (bi false b false d e) := halloc (halloc hy0 (bi false b false d e)) (bi a' b' c' d' e')
  have s2 : ((w1.alloc (bi false b false d e)).alloc (bi a' b' c' d' e')).heap[w.heap.size + 1]? = some (bi a' b' c' d' e') := halloc (halloc hy1 (bi false b false d e)) (bi a' b' c' d' e')
  have q2 : ((w1.alloc (bi false b false d e)).alloc (bi a' b' c' d' e')).heap[w.heap.size + 1 + 1]? = some (bi false false false false false) := halloc (halloc hy2 (bi false b false d e)) (bi a' b' c' d' e')
  have r2 : ((w1.alloc (bi false b false d e)).alloc (bi a' b' c' d' e')).heap[w.heap.size + 1 + 1 + 1]? = some (bi false false false false false) := halloc (halloc hy3 (bi false b false d e)) (bi a' b' c' d' e')
  have n2 : ((w1.alloc (bi false b false d e)).alloc (bi a' b' c' d' e')).heap[w1.heap.size]? = some (bi false b false d e) := halloc n1 (bi a' b' c' d' e')
  have D2 : Below w.heap.size w ((w1.alloc (bi false b false d e)).alloc (bi a' b' c' d' e')) := below_alloc0 (below_alloc0 D _) _
  obtain ⟨⟨_, _, _, _, _⟩, ⟨_, _, _, _, _⟩, _⟩ := iopen5 p2
  obtain ⟨⟨_, _, _, _, _⟩, ⟨_, _, _, _, _⟩, _⟩ := iopen5 s2
  obtain ⟨⟨_, _, _, _, _⟩, ⟨_, _, _, _, _⟩, _⟩ := iopen5 q2
  obtain ⟨⟨_, _, _, _, _⟩, ⟨_, _, _, _, _⟩, _⟩ := iopen5 r2
  go_wp2_with fail
  go_region
  all_goals (try go_wp2)
  all_goals (try simp only [Exit.inBlock, Exit.then])
  (refine bodyPost_cct rfl (w.heap.size + 1 + 1) (w.heap.size + 1 + 1 + 1) 103 103 #[.bool false, .bool b, .bool false, .bool d, .bool e] #[.bool a', .bool b', .bool c', .bool d', .bool e'] (0, 0) (0, 0) _ rfl rfl ?_ ?_ Tryz.underlying103 rfl info_it5 rfl rfl ⟨?_, ?_⟩)
  · refine heap_drew' ?_
    exact (put5_ne (w := put5 ((w1.alloc (bi false b false d e)).alloc (bi a' b' c' d' e')) (w.heap.size + 1 + 1) false b false d e) (g := w.heap.size + 1 + 1 + 1) (k := w.heap.size + 1 + 1) a' b' c' d' e' (by omega)).trans (put5_at false b false d e q2)
  · refine heap_drew' ?_
    exact put5_at (w := put5 ((w1.alloc (bi false b false d e)).alloc (bi a' b' c' d' e')) (w.heap.size + 1 + 1) false b false d e) (g := w.heap.size + 1 + 1 + 1) a' b' c' d' e' ((put5_ne (w := ((w1.alloc (bi false b false d e)).alloc (bi a' b' c' d' e'))) (g := w.heap.size + 1 + 1) (k := w.heap.size + 1 + 1 + 1) false b false d e (by omega)).trans r2)
  · rfl
  · exact (put5_below (put5_below D2 (w.heap.size + 1 + 1) (by omega) false b false d e) (w.heap.size + 1 + 1 + 1) (by omega) a' b' c' d' e').drew
set_option maxHeartbeats 16000000 in
set_option maxRecDepth 100000 in
theorem refact3_1 (b c d e a' b' c' d' e' : Bool) (w : World) (hf : Hid (fitI ⟨true, b, c, d, e⟩ ⟨a', b', c', d', e'⟩ = true)) :
    Calls Tryz.prog 158 #[.agg #[.bool true, .bool b, .bool c, .bool d, .bool e], .agg #[.bool a', .bool b', .bool c', .bool d', .bool e'], .int .i64 3] w fun x w' => x = .returned (.tuple #[.agg #[.bool false, .bool b, .bool false, .bool d, .bool e], .agg #[.bool a', .bool false, .bool c', .bool false, .bool e'], .int .i64 0]) ∧ Below w.heap.size w w' := by
  obtain ⟨hx0, hx1, hx2, hx3, DD⟩ := act_facts w (bi true b c d e) (bi a' b' c' d' e') (bi false false false false false)
  go_enter Tryz.func158, Tryz.ntmps158
  go_wp2_with fail
  with_reducible refine (re_ (refMayI_calls true b c d e a' b' c' d' e' _) (ret_bool hf.out)).mono ?_
  rintro x w1 ⟨rfl, b1⟩
  have hy0 := hcall hx0 b1
  have hy1 := hcall hx1 b1
  have hy2 := hcall hx2 b1
  have hy3 := hcall hx3 b1
  have D := below_call DD b1
  have hz0 : w.heap.size + 1 + 1 + 1 + 1 ≤ w1.heap.size := by
    have := b1.size
    simp only [size_alloc] at this
    exact this
  clear b1 DD hx0 hx1 hx2 hx3
  obtain ⟨⟨_, _, _, _, _⟩, ⟨_, _, _, _, _⟩, _⟩ := iopen5 hy0
  have n1 : (w1.alloc (bi true b c d e)).heap[w1.heap.size]? = some (bi true b c d e) := heap_alloc_new _ _
  have s1 : (w1.alloc (bi true b c d e)).heap[w.heap.size + 1]? = some (bi a' b' c' d' e') := halloc hy1 (bi true b c d e)
  obtain ⟨⟨_, _, _, _, _⟩, ⟨_, _, _, _, _⟩, _⟩ := iopen5 s1
  have m2 : ((w1.alloc (bi true b c d e)).alloc (bi a' b' c' d' e')).heap[w1.heap.size + 1]? = some (bi a' b' c' d' e') := by
    have := heap_alloc_new (w1.alloc (bi true b c d e)) (bi a' b' c' d' e')
    simpa only [size_alloc] using this
  have p2 : ((w1.alloc (bi true b c d e)).alloc (bi a' b' c' d' e')).heap[w.heap.size]? = some (bi true b c d e) := halloc (halloc hy0 (bi true b c d e)) (bi a' b' c' d' e')
  have s2 : ((w1.alloc (bi true b c d e)).alloc (bi a' b' c' d' e')).heap[w.heap.size + 1]? = some (bi a' b' c' d' e') := halloc (halloc hy1 (bi true b c d e)) (bi a' b' c' d' e')
  have q2 : ((w1.alloc (bi true b c d e)).alloc (bi a' b' c' d' e')).heap[w.heap.size + 1 + 1]? = some (bi false false false false false) := halloc (halloc hy2 (bi true b c d e)) (bi a' b' c' d' e')
  have r2 : ((w1.alloc (bi true b c d e)).alloc (bi a' b' c' d' e')).heap[w.heap.size + 1 + 1 + 1]? = some (bi false false false false false) := halloc (halloc hy3 (bi true b c d e)) (bi a' b' c' d' e')
  have n2 : ((w1.alloc (bi true b c d e)).alloc (bi a' b' c' d' e')).heap[w1.heap.size]? = some (bi true b c d e) := halloc n1 (bi a' b' c' d' e')
  have D2 : Below w.heap.size w ((w1.alloc (bi true b c d e)).alloc (bi a' b' c' d' e')) := below_alloc0 (below_alloc0 D _) _
  obtain ⟨⟨_, _, _, _, _⟩, ⟨_, _, _, _, _⟩, _⟩ := iopen5 p2
  obtain ⟨⟨_, _, _, _, _⟩, ⟨_, _, _, _, _⟩, _⟩ := iopen5 s2
  obtain ⟨⟨_, _, _, _, _⟩, ⟨_, _, _, _, _⟩, _⟩ := iopen5 n2
  obtain ⟨⟨_, _, _, _, _⟩, ⟨_, _, _, _, _⟩, _⟩ := iopen5 m2
  have n3 : ((w1.alloc (bi false b false d e)).alloc (bi a' false c' false e')).heap[w1.heap.size]? = some (bi false b false d e) := halloc (heap_alloc_new _ _) (bi a' false c' false e')
  have m3 : ((w1.alloc (bi false b false d e)).alloc (bi a' false c' false e')).heap[w1.heap.size + 1]? = some (bi a' false c' false e') := by
    have := heap_alloc_new (w1.alloc (bi false b false d e)) (bi a' false c' false e')
    simpa only [size_alloc] using this
  have q3 : ((w1.alloc (bi false b false d e)).alloc (bi a' false c' false e')).heap[w.heap.size + 1 + 1]? = some (bi false false false false false) := halloc (halloc hy2 (bi false b false d e)) (bi a' false c' false e')
  have r3 : ((w1.alloc (bi false b false d e)).alloc (bi a' false c' false e')).heap[w.heap.size + 1 + 1 + 1]? = some (bi false false false false false) := halloc (halloc hy3 (bi false b false d e)) (bi a' false c' false e')
  have D3 : Below w.heap.size w ((w1.alloc (bi false b false d e)).alloc (bi a' false c' false e')) := below_alloc0 (below_alloc0 D _) _
  obtain ⟨⟨_, _, _, _, _⟩, ⟨_, _, _, _, _⟩, _⟩ := iopen5 n3
  obtain ⟨⟨_, _, _, _, _⟩, ⟨_, _, _, _, _⟩, _⟩ := iopen5 m3
  obtain ⟨⟨_, _, _, _, _⟩, ⟨_, _, _, _, _⟩, _⟩ := iopen5 q3
  obtain ⟨⟨_, _, _, _, _⟩, ⟨_, _, _, _, _⟩, _⟩ := iopen5 r3
  go_wp2_with fail
  go_region
  all_goals (try go_wp2)
  all_goals (try simp only [Exit.inBlock, Exit.then])
  (refine bodyPost_cct rfl (w.heap.size + 1 + 1) (w.heap.size + 1 + 1 + 1) 103 103 #[.bool false, .bool b, .bool false, .bool d, .bool e] #[.bool a', .bool false, .bool c', .bool false, .bool e'] (0, 0) (0, 0) _ rfl rfl ?_ ?_ Tryz.underlying103 rfl info_it5 rfl rfl ⟨?_, ?_⟩)
  · refine heap_drew' ?_
    exact (put5_ne (w := put5 ((w1.alloc (bi false b false d e)).alloc (bi a' false c' false e')) (w.heap.size + 1 + 1) false b false d e) (g := w.heap.size + 1 + 1 + 1) (k := w.heap.size + 1 + 1) a' false c' false e' (by omega)).trans (put5_at false b false d e q3)
  · refine heap_drew' ?_
    exact put5_at (w := put5 ((w1.alloc (bi false b false d e)).alloc (bi a' false c' false e')) (w.heap.size + 1 + 1) false b false d e) (g := w.heap.size + 1 + 1 + 1) a' false c' false e' ((put5_ne (w := ((w1.alloc (bi false b false d e)).alloc (bi a' false c' false e'))) (g := w.heap.size + 1 + 1) (k := w.heap.size + 1 + 1 + 1) false b false d e (by omega)).trans r3)
  · rfl
  · exact (put5_below (put5_below D3 (w.heap.size + 1 + 1) (by omega) false b false d e) (w.heap.size + 1 + 1 + 1) (by omega) a' false c' false e').drew
set_option maxHeartbeats 16000000 in
set_option maxRecDepth 100000 in
theorem refact3_2 (b d e a' b' c' d' e' : Bool) (w : World) (hf : Hid (fitI ⟨false, b, true, d, e⟩ ⟨a', b', c', d', e'⟩ = true)) :
    Calls Tryz.prog 158 #[.agg #[.bool false, .bool b, .bool true, .bool d, .bool e], .agg #[.bool a', .bool b', .bool c', .bool d', .bool e'], .int .i64 3] w fun x w' => x = .returned (.tuple #[.agg #[.bool false, .bool b, .bool false, .bool d, .bool e], .agg #[.bool a', .bool false, .bool c', .bool false, .bool e'], .int .i64 0]) ∧ Below w.heap.size w w' := by
  obtain ⟨hx0, hx1, hx2, hx3, DD⟩ := act_facts w (bi false b true d e) (bi a' b' c' d' e') (bi false false false false false)
  go_enter Tryz.func158, Tryz.ntmps158
  go_wp2_with fail
  with_reducible refine (re_ (refMayI_calls false b true d e a' b' c' d' e' _) (ret_bool hf.out)).mono ?_
  rintro x w1 ⟨rfl, b1⟩
  have hy0 := hcall hx0 b1
  have hy1 := hcall hx1 b1
  have hy2 := hcall hx2 b1
  have hy3 := hcall hx3 b1
  have D := below_call DD b1
  have hz0 : w.heap.size + 1 + 1 + 1 + 1 ≤ w1.heap.size := by
    have := b1.size
    simp only [size_alloc] at this
    exact this
  clear b1 DD hx0 hx1 hx2 hx3
  obtain ⟨⟨_, _, _, _, _⟩, ⟨_, _, _, _, _⟩, _⟩ := iopen5 hy0
  have n1 : (w1.alloc (bi false b true d e)).heap[w1.heap.size]? = some (bi false b true d e) := heap_alloc_new _ _
  have s1 : (w1.alloc (bi false b true d e)).heap[w.heap.size + 1]? = some (bi a' b' c' d' e') := halloc hy1 (bi false b true d e)
  obtain ⟨⟨_, _, _, _, _⟩, ⟨_, _, _, _, _⟩, _⟩ := iopen5 s1
  have m2 : ((w1.alloc (bi false b true d e)).alloc (bi a' b' c' d' e')).heap[w1.heap.size + 1]? = some (bi a' b' c' d' e') := by
    have := heap_alloc_new (w1.alloc (bi false b true d e)) (bi a' b' c' d' e')
    simpa only [size_alloc] using this
  have p2 : ((w1.alloc (bi false b true d e)).alloc (bi a' b' c' d' e')).heap[w.heap.size]? = some (bi false b true d e) := halloc (halloc hy0 (bi false b true d e)) (bi a' b' c' d' e')
  have s2 : ((w1.alloc (bi false b true d e)).alloc (bi a' b' c' d' e')).heap[w.heap.size + 1]? = some (bi a' b' c' d' e') := halloc (halloc hy1 (bi false b true d e)) (bi a' b' c' d' e')
  have q2 : ((w1.alloc (bi false b true d e)).alloc (bi a' b' c' d' e')).heap[w.heap.size + 1 + 1]? = some (bi false false false false false) := halloc (halloc hy2 (bi false b true d e)) (bi a' b' c' d' e')
  have r2 : ((w1.alloc (bi false b true d e)).alloc (bi a' b' c' d' e')).heap[w.heap.size + 1 + 1 + 1]? = some (bi false false false false false) := halloc (halloc hy3 (bi false b true d e)) (bi a' b' c' d' e')
  have n2 : ((w1.alloc (bi false b true d e)).alloc (bi a' b' c' d' e')).heap[w1.heap.size]? = some (bi false b true d e) := halloc n1 (bi a' b' c' d' e')
  have D2 : Below w.heap.size w ((w1.alloc (bi false b true d e)).alloc (bi a' b' c' d' e')) := below_alloc0 (below_alloc0 D _) _
  obtain ⟨⟨_, _, _, _, _⟩, ⟨_, _, _, _, _⟩, _⟩ := iopen5 p2
  obtain ⟨⟨_, _, _, _, _⟩, ⟨_, _, _, _, _⟩, _⟩ := iopen5 s2
  obtain ⟨⟨_, _, _, _, _⟩, ⟨_, _, _, _, _⟩, _⟩ := iopen5 n2
  obtain ⟨⟨_, _, _, _, _⟩, ⟨_, _, _, _, _⟩, _⟩ := iopen5 m2
  have n3 : ((w1.alloc (bi false b false d e)).alloc (bi a' false c' false e')).heap[w1.heap.size]? = some (bi false b false d e) := halloc (heap_alloc_new _ _) (bi a' false c' false e')
  have m3 : ((w1.alloc (bi false b false d e)).alloc (bi a' false c' false e')).heap[w1.heap.size + 1]? = some (bi a' false c' false e') := by
    have := heap_alloc_new (w1.alloc (bi false b false d e)) (bi a' false c' false e')
    simpa only [size_alloc] using this
  have q3 : ((w1.alloc (bi false b false d e)).alloc (bi a' false c' false e')).heap[w.heap.size + 1 + 1]? = some (bi false false false false false) := halloc (halloc hy2 (bi false b false d e)) (bi a' false c' false e')
  have r3 : ((w1.alloc (bi false b false d e)).alloc (bi a' false c' false e')).heap[w.heap.size + 1 + 1 + 1]? = some (bi false false false false false) := halloc (halloc hy3 (bi false b false d e)) (bi a' false c' false e')
  have D3 : Below w.heap.size w ((w1.alloc (bi false b false d e)).alloc (bi a' false c' false e')) := below_alloc0 (below_alloc0 D _) _
  obtain ⟨⟨_, _, _, _, _⟩, ⟨_, _, _, _, _⟩, _⟩ := iopen5 n3
  obtain ⟨⟨_, _, _, _, _⟩, ⟨_, _, _, _, _⟩, _⟩ := iopen5 m3
  obtain ⟨⟨_, _, _, _, _⟩, ⟨_, _, _, _, _⟩, _⟩ := iopen5 q3
  obtain ⟨⟨_, _, _, _, _⟩, ⟨_, _, _, _, _⟩, _⟩ := iopen5 r3
  go_wp2_with fail
  go_region
  all_goals (try go_wp2)
  all_goals (try simp only [Exit.inBlock, Exit.then])
  (refine bodyPost_cct rfl (w.heap.size + 1 + 1) (w.heap.size + 1 + 1 + 1) 103 103 #[.bool false, .bool b, .bool false, .bool d, .bool e] #[.bool a', .bool false, .bool c', .bool false, .bool e'] (0, 0) (0, 0) _ rfl rfl ?_ ?_ Tryz.underlying103 rfl info_it5 rfl rfl ⟨?_, ?_⟩)
  · refine heap_drew' ?_
    exact (put5_ne (w := put5 ((w1.alloc (bi false b false d e)).alloc (bi a' false c' false e')) (w.heap.size + 1 + 1) false b false d e) (g := w.heap.size + 1 + 1 + 1) (k := w.heap.size + 1 + 1) a' false c' false e' (by omega)).trans (put5_at false b false d e q3)
  · refine heap_drew' ?_
    exact put5_at (w := put5 ((w1.alloc (bi false b false d e)).alloc (bi a' false c' false e')) (w.heap.size + 1 + 1) false b false d e) (g := w.heap.size + 1 + 1 + 1) a' false c' false e' ((put5_ne (w := ((w1.alloc (bi false b false d e)).alloc (bi a' false c' false e'))) (g := w.heap.size + 1 + 1) (k := w.heap.size + 1 + 1 + 1) false b false d e (by omega)).trans r3)
  · rfl
  · exact (put5_below (put5_below D3 (w.heap.size + 1 + 1) (by omega) false b false d e) (w.heap.size + 1 + 1 + 1) (by omega) a' false c' false e').drew
set_option maxHeartbeats 16000000 in
set_option maxRecDepth 100000 in
theorem refact4_0 (a c e a' b' c' d' e' : Bool) (w : World) (hf : Hid (fitI ⟨a, false, c, false, e⟩ ⟨a', b', c', d', e'⟩ = true)) :
    Calls Tryz.prog 158 #[.agg #[.bool a, .bool false, .bool c, .bool false, .bool e], .agg #[.bool a', .bool b', .bool c', .bool d', .bool e'], .int .i64 4] w fun x w' => x = .returned (.tuple #[.agg #[.bool a, .bool false, .bool c, .bool false, .bool e], .agg #[.bool a', .bool b', .bool c', .bool d', .bool e'], .int .i64 7]) ∧ Below w.heap.size w w' := by
  obtain ⟨hx0, hx1, hx2, hx3, DD⟩ := act_facts w (bi a false c false e) (bi a' b' c' d' e') (bi false false false false false)
  go_enter Tryz.func158, Tryz.ntmps158
  go_wp2_with fail
  with_reducible refine (re_ (refMayI_calls a false c false e a' b' c' d' e' _) (ret_bool hf.out)).mono ?_
  rintro x w1 ⟨rfl, b1⟩
  have hy0 := hcall hx0 b1
  have hy1 := hcall hx1 b1
  have hy2 := hcall hx2 b1
  have hy3 := hcall hx3 b1
  have D := below_call DD b1
  have hz0 : w.heap.size + 1 + 1 + 1 + 1 ≤ w1.heap.size := by
    have := b1.size
    simp only [size_alloc] at this
    exact this
  clear b1 DD hx0 hx1 hx2 hx3
  obtain ⟨⟨_, _, _, _, _⟩, ⟨_, _, _, _, _⟩, _⟩ := iopen5 hy0
  have n1 : (w1.alloc (bi a false c false e)).heap[w1.heap.size]? = some (bi a false c false e) := heap_alloc_new _ _
  have s1 : (w1.alloc (bi a false c false e)).heap[w.heap.size + 1]? = some (bi a' b' c' d' e') := halloc hy1 (bi a false c false e)
  obtain ⟨⟨_, _, _, _, _⟩, ⟨_, _, _, _, _⟩, _⟩ := iopen5 s1
  have m2 : ((w1.alloc (bi a false c false e)).alloc (bi a' b' c' d' e')).heap[w1.heap.size + 1]? = some (bi a' b' c' d' e') := by
    have := heap_alloc_new (w1.alloc (bi a false c false e)) (bi a' b' c' d' e')
    simpa only [size_alloc] using this
  have p2 : ((w1.alloc (bi a false c false e)).alloc (bi a' b' c' d' e')).heap[w.heap.size]? = some (bi a false c false e) := halloc (halloc hy0 (bi a false c false e)) (bi a' b' c' d' e')
  have s2 : ((w1.alloc (bi a false c false e)).alloc (bi a' b' c' d' e')).heap[w.heap.size + 1]? = some (bi a' b' c' d' e') := halloc (halloc hy1 (bi a false c false e)) (bi a' b' c' d' e')
  have q2 : ((w1.alloc (bi a false c false e)).alloc (bi a' b' c' d' e')).heap[w.heap.size + 1 + 1]? = some (bi false false false false false) := halloc (halloc hy2 (bi a false c false e)) (bi a' b' c' d' e')
  have r2 : ((w1.alloc (bi a false c false e)).alloc (bi a' b' c' d' e')).heap[w.heap.size + 1 + 1 + 1]? = some (bi false false false false false) := halloc (halloc hy3 (bi a false c false e)) (bi a' b' c' d' e')
  have n2 : ((w1.alloc (bi a false c false e)).alloc (bi a' b' c' d' e')).heap[w1.heap.size]? = some (bi a false c false e) := halloc n1 (bi a' b' c' d' e')
  have D2 : Below w.heap.size w ((w1.alloc (bi a false c false e)).alloc (bi a' b' c' d' e')) := below_alloc0 (below_alloc0 D _) _
  obtain ⟨⟨_, _, _, _, _⟩, ⟨_, _, _, _, _⟩, _⟩ := iopen5 p2
  obtain ⟨⟨_, _, _, _, _⟩, ⟨_, _, _, _, _⟩, _⟩ := iopen5 s2
  obtain ⟨⟨_, _, _, _, _⟩, ⟨_, _, _, _, _⟩, _⟩ := iopen5 q2
  obtain ⟨⟨_, _, _, _, _⟩, ⟨_, _, _, _, _⟩, _⟩ := iopen5 r2
  go_wp2_with fail
  go_region
  all_goals (try go_wp2)
  all_goals (try simp only [Exit.inBlock, Exit.then])
  (refine bodyPost_cct rfl (w.heap.size + 1 + 1) (w.heap.size + 1 + 1 + 1) 103 103 #[.bool a, .bool false, .bool c, .bool false, .bool e] #[.bool a', .bool b', .bool c', .bool d', .bool e'] (0, 0) (0, 0) _ rfl rfl ?_ ?_ Tryz.underlying103 rfl info_it5 rfl rfl ⟨?_, ?_⟩)
  · refine heap_drew' ?_
    exact (put5_ne (w := put5 ((w1.alloc (bi a false c false e)).alloc (bi a' b' c' d' e')) (w.heap.size + 1 + 1) a false c false e) (g := w.heap.size + 1 + 1 + 1) (k := w.heap.size + 1 + 1) a' b' c' d' e' (by omega)).trans (put5_at a false c false e q2)
  · refine heap_drew' ?_
    exact put5_at (w := put5 ((w1.alloc (bi a false c false e)).alloc (bi a' b' c' d' e')) (w.heap.size + 1 + 1) a false c false e) (g := w.heap.size + 1 + 1 + 1) a' b' c' d' e' ((put5_ne (w := ((w1.alloc (bi a false c false e)).alloc (bi a' b' c' d' e'))) (g := w.heap.size + 1 + 1) (k := w.heap.size + 1 + 1 + 1) a false c false e (by omega)).trans r2)
  · rfl
  · exact (put5_below (put5_below D2 (w.heap.size + 1 + 1) (by omega) a false c false e) (w.heap.size + 1 + 1 + 1) (by omega) a' b' c' d' e').drew
set_option maxHeartbeats 16000000 in
set_option maxRecDepth 100000 in
theorem refact4_1 (a c d e a' b' c' d' e' : Bool) (w : World) (hf : Hid (fitI ⟨a, true, c, d, e⟩ ⟨a', b', c', d', e'⟩ = true)) :
    Calls Tryz.prog 158 #[.agg #[.bool a, .bool true, .bool c, .bool d, .bool e], .agg #[.bool a', .bool b', .bool c', .bool d', .bool e'], .int .i64 4] w fun x w' => x = .returned (.tuple #[.agg #[.bool a, .bool false, .bool c, .bool false, .bool e], .agg #[.bool false, .bool b', .bool false, .bool d', .bool e'], .int .i64 0]) ∧ Below w.heap.size w w' := by
  obtain ⟨hx0, hx1, hx2, hx3, DD⟩ := act_facts w (bi a true c d e) (bi a' b' c' d' e') (bi false false false false false)
  go_enter Tryz.func158, Tryz.ntmps158
  go_wp2_with fail
  with_reducible refine (re_ (refMayI_calls a true c d e a' b' c' d' e' _) (ret_bool hf.out)).mono ?_
  rintro x w1 ⟨rfl, b1⟩
  have hy0 := hcall hx0 b1
  have hy1 := hcall hx1 b1
  have hy2 := hcall hx2 b1
  have hy3 := hcall hx3 b1
  have D := below_call DD b1
  have hz0 : w.heap.size + 1 + 1 + 1 + 1 ≤ w1.heap.size := by
    have := b1.size
    simp only [size_alloc] at this
    exact this
  clear b1 DD hx0 hx1 hx2 hx3
  obtain ⟨⟨_, _, _, _, _⟩, ⟨_, _, _, _, _⟩, _⟩ := iopen5 hy0
  have n1 : (w1.alloc (bi a true c d e)).heap[w1.heap.size]? = some (bi a true c d e) := heap_alloc_new _ _
  have s1 : (w1.alloc (bi a true c d e)).heap[w.heap.size + 1]? = some (bi a' b' c' d' e') := halloc hy1 (bi a true c d e)
  obtain ⟨⟨_, _, _, _, _⟩, ⟨_, _, _, _, _⟩, _⟩ := iopen5 s1
  have m2 : ((w1.alloc (bi a true c d e)).alloc (bi a' b' c' d' e')).heap[w1.heap.size + 1]? = some (bi a' b' c' d' e') := by
    have := heap_alloc_new (w1.alloc (bi a true c d e)) (bi a' b' c' d' e')
    simpa only [size_alloc] using this
  have p2 : ((w1.alloc (bi a true c d e)).alloc (bi a' b' c' d' e')).heap[w.heap.size]? = some (bi a true c d e) := halloc (halloc hy0 (bi a true c d e)) (bi a' b' c' d' e')
  have s2 : ((w1.alloc (bi a true c d e)).alloc (bi a' b' c' d' e')).heap[w.heap.size + 1]? = some (bi a' b' c' d' e') := halloc (halloc hy1 (bi a true c d e)) (bi a' b' c' d' e')
  have q2 : ((w1.alloc (bi a true c d e)).alloc (bi a' b' c' d' e')).heap[w.heap.size + 1 + 1]? = some (bi false false false false false) := halloc (halloc hy2 (bi a true c d e)) (bi a' b' c' d' e')
  have r2 : ((w1.alloc (bi a true c d e)).alloc (bi a' b' c' d' e')).heap[w.heap.size + 1 + 1 + 1]? = some (bi false false false false false) := halloc (halloc hy3 (bi a true c d e)) (bi a' b' c' d' e')
  have n2 : ((w1.alloc (bi a true c d e)).alloc (bi a' b' c' d' e')).heap[w1.heap.size]? = some (bi a true c d e) := halloc n1 (bi a' b' c' d' e')
  have D2 : Below w.heap.size w ((w1.alloc (bi a true c d e)).alloc (bi a' b' c' d' e')) := below_alloc0 (below_alloc0 D _) _
  obtain ⟨⟨_, _, _, _, _⟩, ⟨_, _, _, _, _⟩, _⟩ := iopen5 p2
  obtain ⟨⟨_, _, _, _, _⟩, ⟨_, _, _, _, _⟩, _⟩ := iopen5 s2
  obtain ⟨⟨_, _, _, _, _⟩, ⟨_, _, _, _, _⟩, _⟩ := iopen5 n2
  obtain ⟨⟨_, _, _, _, _⟩, ⟨_, _, _, _, _⟩, _⟩ := iopen5 m2
  have n3 : ((w1.alloc (bi a false c false e)).alloc (bi false b' false d' e')).heap[w1.heap.size]? = some (bi a false c false e) := halloc (heap_alloc_new _ _) (bi false b' false d' e')
  have m3 : ((w1.alloc (bi a false c false e)).alloc (bi false b' false d' e')).heap[w1.heap.size + 1]? = some (bi false b' false d' e') := by
    have := heap_alloc_new (w1.alloc (bi a false c false e)) (bi false b' false d' e')
    simpa only [size_alloc] using this
  have q3 : ((w1.alloc (bi a false c false e)).alloc (bi false b' false d' e')).heap[w.heap.size + 1 + 1]? = some (bi false false false false false) := halloc (halloc hy2 (bi a false c false e)) (bi false b' false d' e')
  have r3 : ((w1.alloc (bi a false c false e)).alloc (bi false b' false d' e')).heap[w.heap.size + 1 + 1 + 1]? = some (bi false false false false false) := halloc (halloc hy3 (bi a false c false e)) (bi false b' false d' e')
  have D3 : Below w.heap.size w ((w1.alloc (bi a false c false e)).alloc (bi false b' false d' e')) := below_alloc0 (below_alloc0 D _) _
  obtain ⟨⟨_, _, _, _, _⟩, ⟨_, _, _, _, _⟩, _⟩ := iopen5 n3
  obtain ⟨⟨_, _, _, _, _⟩, ⟨_, _, _, _, _⟩, _⟩ := iopen5 m3
  obtain ⟨⟨_, _, _, _, _⟩, ⟨_, _, _, _, _⟩, _⟩ := iopen5 q3
  obtain ⟨⟨_, _, _, _, _⟩, ⟨_, _, _, _, _⟩, _⟩ := iopen5 r3
  go_wp2_with fail
  go_region
  all_goals (try go_wp2)
  all_goals (try simp only [Exit.inBlock, Exit.then])
  (refine bodyPost_cct rfl (w.heap.size + 1 + 1) (w.heap.size + 1 + 1 + 1) 103 103 #[.bool a, .bool false, .bool c, .bool false, .bool e] #[.bool false, .bool b', .bool false, .bool d', .bool e'] (0, 0) (0, 0) _ rfl rfl ?_ ?_ Tryz.underlying103 rfl info_it5 rfl rfl ⟨?_, ?_⟩)
  · refine heap_drew' ?_
    exact (put5_ne (w := put5 ((w1.alloc (bi a false c false e)).alloc (bi false b' false d' e')) (w.heap.size + 1 + 1) a false c false e) (g := w.heap.size + 1 + 1 + 1) (k := w.heap.size + 1 + 1) false b' false d' e' (by omega)).trans (put5_at a false c false e q3)
  · refine heap_drew' ?_
    exact put5_at (w := put5 ((w1.alloc (bi a false c false e)).alloc (bi false b' false d' e')) (w.heap.size + 1 + 1) a false c false e) (g := w.heap.size + 1 + 1 + 1) false b' false d' e' ((put5_ne (w := ((w1.alloc (bi a false c false e)).alloc (bi false b' false d' e'))) (g := w.heap.size + 1 + 1) (k := w.heap.size + 1 + 1 + 1) a false c false e (by omega)).trans r3)
  · rfl
  · exact (put5_below (put5_below D3 (w.heap.size + 1 + 1) (by omega) a false c false e) (w.heap.size + 1 + 1 + 1) (by omega) false b' false d' e').drew
set_option maxHeartbeats 16000000 in
set_option maxRecDepth 100000 in
theorem refact4_2 (a c e a' b' c' d' e' : Bool) (w : World) (hf : Hid (fitI ⟨a, false, c, true, e⟩ ⟨a', b', c', d', e'⟩ = true)) :
    Calls Tryz.prog 158 #[.agg #[.bool a, .bool false, .bool c, .bool true, .bool e], .agg #[.bool a', .bool b', .bool c', .bool d', .bool e'], .int .i64 4] w fun x w' => x = .returned (.tuple #[.agg #[.bool a, .bool false, .bool c, .bool false, .bool e], .agg #[.bool false, .bool b', .bool false, .bool d', .bool e'], .int .i64 0]) ∧ Below w.heap.size w w' := by
  obtain ⟨hx0, hx1, hx2, hx3, DD⟩ := act_facts w (bi a false c true e) (bi a' b' c' d' e') (bi false false false false false)
  go_enter Tryz.func158, Tryz.ntmps158
  go_wp2_with fail
  with_reducible refine (re_ (refMayI_calls a false c true e a' b' c' d' e' _) (ret_bool hf.out)).mono ?_
  rintro x w1 ⟨rfl, b1⟩
  have hy0 := hcall hx0 b1
  have hy1 := hcall hx1 b1
  have hy2 := hcall hx2 b1
  have hy3 := hcall hx3 b1
  have D := below_call DD b1
  have hz0 : w.heap.size + 1 + 1 + 1 + 1 ≤ w1.heap.size := by
    have := b1.size
    simp only [size_alloc] at this
    exact this
  clear b1 DD hx0 hx1 hx2 hx3
  obtain ⟨⟨_, _, _, _, _⟩, ⟨_, _, _, _, _⟩, _⟩ := iopen5 hy0
  have n1 : (w1.alloc (bi a false c true e)).heap[w1.heap.size]? = some (bi a false c true e) := heap_alloc_new _ _
  have s1 : (w1.alloc (bi a false c true e)).heap[w.heap.size + 1]? = some (bi a' b' c' d' e') := halloc hy1 (bi a false c true e)
  obtain ⟨⟨_, _, _, _, _⟩, ⟨_, _, _, _, _⟩, _⟩ := iopen5 s1
  have m2 : ((w1.alloc (bi a false c true e)).alloc (bi a' b' c' d' e')).heap[w1.heap.size + 1]? = some (bi a' b' c' d' e') := by
    have := heap_alloc_new (w1.alloc (bi a false c true e)) (bi a' b' c' d' e')
    simpa only [size_alloc] using this
  have p2 : ((w1.alloc (bi a false c true e)).alloc (bi a' b' c' d' e')).heap[w.heap.size]? = some (bi a false c true e) := halloc (halloc hy0 (bi a false c true e)) (bi a' b' c' d' e')
  have s2 : ((w1.alloc (bi a false c true e)).alloc (bi a' b' c' d' e')).heap[w.heap.size + 1]? = some (bi a' b' c' d' e') := halloc (halloc hy1 (bi a false c true e)) (bi a' b' c' d' e')
  have q2 : ((w1.alloc (bi a false c true e)).alloc (bi a' b' c' d' e')).heap[w.heap.size + 1 + 1]? = some (bi false false false false false) := halloc (halloc hy2 (bi a false c true e)) (bi a' b' c' d' e')
  have r2 : ((w1.alloc (bi a false c true e)).alloc (bi a' b' c' d' e')).heap[w.heap.size + 1 + 1 + 1]? = some (bi false false false false false) := halloc (halloc hy3 (bi a false c true e)) (bi a' b' c' d' e')
  have n2 : ((w1.alloc (bi a false c true e)).alloc (bi a' b' c' d' e')).heap[w1.heap.size]? = some (bi a false c true e) := halloc n1 (bi a' b' c' d' e')
  have D2 : Below w.heap.size w ((w1.alloc (bi a false c true e)).alloc (bi a' b' c' d' e')) := below_alloc0 (below_alloc0 D _) _
  obtain ⟨⟨_, _, _, _, _⟩, ⟨_, _, _, _, _⟩, _⟩ := iopen5 p2
  obtain ⟨⟨_, _, _, _, _⟩, ⟨_, _, _, _, _⟩, _⟩ := iopen5 s2
  obtain ⟨⟨_, _, _, _, _⟩, ⟨_, _, _, _, _⟩, _⟩ := iopen5 n2
  obtain ⟨⟨_, _, _, _, _⟩, ⟨_, _, _, _, _⟩, _⟩ := iopen5 m2
  have n3 : ((w1.alloc (bi a false c false e)).alloc (bi false b' false d' e')).heap[w1.heap.size]? = some (bi a false c false e) := halloc (heap_alloc_new _ _) (bi false b' false d' e')
  have m3 : ((w1.alloc (bi a false c false e)).alloc (bi false b' false d' e')).heap[w1.heap.size + 1]? = some (bi false b' false d' e') := by
    have := heap_alloc_new (w1.alloc (bi a false c false e)) (bi false b' false d' e')
    simpa only [size_alloc] using this
  have q3 : ((w1.alloc (bi a false c false e)).alloc (bi false b' false d' e')).heap[w.heap.size + 1 + 1]? = some (bi false false false false false) := halloc (halloc hy2 (bi a false c false e)) (bi false b' false d' e')
  have r3 : ((w1.alloc (bi a false c false e)).alloc (bi false b' false d' e')).heap[w.heap.size + 1 + 1 + 1]? = some (bi false false false false false) := halloc (halloc hy3 (bi a false c false e)) (bi false b' false d' e')
  have D3 : Below w.heap.size w ((w1.alloc (bi a false c false e)).alloc (bi false b' false d' e')) := below_alloc0 (below_alloc0 D _) _
  obtain ⟨⟨_, _, _, _, _⟩, ⟨_, _, _, _, _⟩, _⟩ := iopen5 n3
  obtain ⟨⟨_, _, _, _, _⟩, ⟨_, _, _, _, _⟩, _⟩ := iopen5 m3
  obtain ⟨⟨_, _, _, _, _⟩, ⟨_, _, _, _, _⟩, _⟩ := iopen5 q3
  obtain ⟨⟨_, _, _, _, _⟩, ⟨_, _, _, _, _⟩, _⟩ := iopen5 r3
  go_wp2_with fail
  go_region
  all_goals (try go_wp2)
  all_goals (try simp only [Exit.inBlock, Exit.then])
  (refine bodyPost_cct rfl (w.heap.size + 1 + 1) (w.heap.size + 1 + 1 + 1) 103 103 #[.bool a, .bool false, .bool c, .bool false, .bool e] #[.bool false, .bool b', .bool false, .bool d', .bool e'] (0, 0) (0, 0) _ rfl rfl ?_ ?_ Tryz.underlying103 rfl info_it5 rfl rfl ⟨?_, ?_⟩)
  · refine heap_drew' ?_
    exact (put5_ne (w := put5 ((w1.alloc (bi a false c false e)).alloc (bi false b' false d' e')) (w.heap.size + 1 + 1) a false c false e) (g := w.heap.size + 1 + 1 + 1) (k := w.heap.size + 1 + 1) false b' false d' e' (by omega)).trans (put5_at a false c false e q3)
  · refine heap_drew' ?_
    exact put5_at (w := put5 ((w1.alloc (bi a false c false e)).alloc (bi false b' false d' e')) (w.heap.size + 1 + 1) a false c false e) (g := w.heap.size + 1 + 1 + 1) false b' false d' e' ((put5_ne (w := ((w1.alloc (bi a false c false e)).alloc (bi false b' false d' e'))) (g := w.heap.size + 1 + 1) (k := w.heap.size + 1 + 1 + 1) a false c false e (by omega)).trans r3)
  · rfl
  · exact (put5_below (put5_below D3 (w.heap.size + 1 + 1) (by omega) a false c false e) (w.heap.size + 1 + 1 + 1) (by omega) false b' false d' e').drew
set_option maxHeartbeats 16000000 in
set_option maxRecDepth 100000 in
theorem refact5_0 (a b c d a' b' c' d' e' : Bool) (w : World) (hf : Hid (fitI ⟨a, b, c, d, true⟩ ⟨a', b', c', d', e'⟩ = true)) :
    Calls Tryz.prog 158 #[.agg #[.bool a, .bool b, .bool c, .bool d, .bool true], .agg #[.bool a', .bool b', .bool c', .bool d', .bool e'], .int .i64 5] w fun x w' => x = .returned (.tuple #[.agg #[.bool a, .bool b, .bool c, .bool d, .bool true], .agg #[.bool a', .bool b', .bool c', .bool d', .bool e'], .int .i64 7]) ∧ Below w.heap.size w w' := by
  obtain ⟨hx0, hx1, hx2, hx3, DD⟩ := act_facts w (bi a b c d true) (bi a' b' c' d' e') (bi false false false false false)
  go_enter Tryz.func158, Tryz.ntmps158
  go_wp2_with fail
  with_reducible refine (re_ (refMayI_calls a b c d true a' b' c' d' e' _) (ret_bool hf.out)).mono ?_
  rintro x w1 ⟨rfl, b1⟩
  have hy0 := hcall hx0 b1
  have hy1 := hcall hx1 b1
  have hy2 := hcall hx2 b1
  have hy3 := hcall hx3 b1
  have D := below_call DD b1
  have hz0 : w.heap.size + 1 + 1 + 1 + 1 ≤ w1.heap.size := by
    have := b1.size
    simp only [size_alloc] at this
    exact this
  clear b1 DD hx0 hx1 hx2 hx3
  obtain ⟨⟨_, _, _, _, _⟩, ⟨_, _, _, _, _⟩, _⟩ := iopen5 hy0
  have n1 : (w1.alloc (bi a b c d true)).heap[w1.heap.size]? = some (bi a b c d true) := heap_alloc_new _ _
  have s1 : (w1.alloc (bi a b c d true)).heap[w.heap.size + 1]? = some (bi a' b' c' d' e') := halloc hy1 (bi a b c d true)
  obtain ⟨⟨_, _, _, _, _⟩, ⟨_, _, _, _, _⟩, _⟩ := iopen5 s1
  have m2 : ((w1.alloc (bi a b c d true)).alloc (bi a' b' c' d' e')).heap[w1.heap.size + 1]? = some (bi a' b' c' d' e') := by
    have := heap_alloc_new (w1.alloc (bi a b c d true)) (bi a' b' c' d' e')
    simpa only [size_alloc] using this
  have p2 : ((w1.alloc (bi a b c d true)).alloc (bi a' b' c' d' e')).heap[w.heap.size]? = some (bi a b c d true) := halloc (halloc hy0 (bi a b c d true)) (bi a' b' c' d' e')
  have s2 : ((w1.alloc (bi a b c d true)).alloc (bi a' b' c' d' e')).heap[w.heap.size + 1]? = some (bi a' b' c' d' e') := halloc (halloc hy1 (bi a b c d true)) (bi a' b' c' d' e')
  have q2 : ((w1.alloc (bi a b c d true)).alloc (bi a' b' c' d' e')).heap[w.heap.size + 1 + 1]? = some (bi false false false false false) := halloc (halloc hy2 (bi a b c d true)) (bi a' b' c' d' e')
  have r2 : ((w1.alloc (bi a b c d true)).alloc (bi a' b' c' d' e')).heap[w.heap.size + 1 + 1 + 1]? = some (bi false false false false false) := halloc (halloc hy3 (bi a b c d true)) (bi a' b' c' d' e')
  have n2 : ((w1.alloc (bi a b c d true)).alloc (bi a' b' c' d' e')).heap[w1.heap.size]? = some (bi a b c d true) := halloc n1 (bi a' b' c' d' e')
  have D2 : Below w.heap.size w ((w1.alloc (bi a b c d true)).alloc (bi a' b' c' d' e')) := below_alloc0 (below_alloc0 D _) _
  obtain ⟨⟨_, _, _, _, _⟩, ⟨_, _, _, _, _⟩, _⟩ := iopen5 p2
  obtain ⟨⟨_, _, _, _, _⟩, ⟨_, _, _, _, _⟩, _⟩ := iopen5 s2
  obtain ⟨⟨_, _, _, _, _⟩, ⟨_, _, _, _, _⟩, _⟩ := iopen5 q2
  obtain ⟨⟨_, _, _, _, _⟩, ⟨_, _, _, _, _⟩, _⟩ := iopen5 r2
  go_wp2_with fail
  go_region
  all_goals (try go_wp2)
  all_goals (try simp only [Exit.inBlock, Exit.then])
  (refine bodyPost_cct rfl (w.heap.size + 1 + 1) (w.heap.size + 1 + 1 + 1) 103 103 #[.bool a, .bool b, .bool c, .bool d, .bool true] #[.bool a', .bool b', .bool c', .bool d', .bool e'] (0, 0) (0, 0) _ rfl rfl ?_ ?_ Tryz.underlying103 rfl info_it5 rfl rfl ⟨?_, ?_⟩)
  · refine heap_drew' ?_
    exact (put5_ne (w := put5 ((w1.alloc (bi a b c d true)).alloc (bi a' b' c' d' e')) (w.heap.size + 1 + 1) a b c d true) (g := w.heap.size + 1 + 1 + 1) (k := w.heap.size + 1 + 1) a' b' c' d' e' (by omega)).trans (put5_at a b c d true q2)
  · refine heap_drew' ?_
    exact put5_at (w := put5 ((w1.alloc (bi a b c d true)).alloc (bi a' b' c' d' e')) (w.heap.size + 1 + 1) a b c d true) (g := w.heap.size + 1 + 1 + 1) a' b' c' d' e' ((put5_ne (w := ((w1.alloc (bi a b c d true)).alloc (bi a' b' c' d' e'))) (g := w.heap.size + 1 + 1) (k := w.heap.size + 1 + 1 + 1) a b c d true (by omega)).trans r2)
  · rfl
  · exact (put5_below (put5_below D2 (w.heap.size + 1 + 1) (by omega) a b c d true) (w.heap.size + 1 + 1 + 1) (by omega) a' b' c' d' e').drew
set_option maxHeartbeats 16000000 in
set_option maxRecDepth 100000 in
theorem refact5_1 (a b c d a' b' c' d' e' : Bool) (w : World) (hf : Hid (fitI ⟨a, b, c, d, false⟩ ⟨a', b', c', d', e'⟩ = true)) :
    Calls Tryz.prog 158 #[.agg #[.bool a, .bool b, .bool c, .bool d, .bool false], .agg #[.bool a', .bool b', .bool c', .bool d', .bool e'], .int .i64 5] w fun x w' => x = .returned (.tuple #[.agg #[.bool a, .bool b, .bool c, .bool d, .bool true], .agg #[.bool a', .bool b', .bool c', .bool d', .bool e'], .int .i64 0]) ∧ Below w.heap.size w w' := by
  obtain ⟨hx0, hx1, hx2, hx3, DD⟩ := act_facts w (bi a b c d false) (bi a' b' c' d' e') (bi false false false false false)
  go_enter Tryz.func158, Tryz.ntmps158
  go_wp2_with fail
  with_reducible refine (re_ (refMayI_calls a b c d false a' b' c' d' e' _) (ret_bool hf.out)).mono ?_
  rintro x w1 ⟨rfl, b1⟩
  have hy0 := hcall hx0 b1
  have hy1 := hcall hx1 b1
  have hy2 := hcall hx2 b1
  have hy3 := hcall hx3 b1
  have D := below_call DD b1
  have hz0 : w.heap.size + 1 + 1 + 1 + 1 ≤ w1.heap.size := by
    have := b1.size
    simp only [size_alloc] at this
    exact this
  clear b1 DD hx0 hx1 hx2 hx3
  obtain ⟨⟨_, _, _, _, _⟩, ⟨_, _, _, _, _⟩, _⟩ := iopen5 hy0
  have n1 : (w1.alloc (bi a b c d false)).heap[w1.heap.size]? = some (bi a b c d false) := heap_alloc_new _ _
  have s1 : (w1.alloc (bi a b c d false)).heap[w.heap.size + 1]? = some (bi a' b' c' d' e') := halloc hy1 (bi a b c d false)
  obtain ⟨⟨_, _, _, _, _⟩, ⟨_, _, _, _, _⟩, _⟩ := iopen5 s1
  have m2 : ((w1.alloc (bi a b c d false)).alloc (bi a' b' c' d' e')).heap[w1.heap.size + 1]? = some (bi a' b' c' d' e') := by
    have := heap_alloc_new (w1.alloc (bi a b c d false)) (bi a' b' c' d' e')
    simpa only [size_alloc] using this
  have p2 : ((w1.alloc (bi a b c d false)).alloc (bi a' b' c' d' e')).heap[w.heap.size]? = some (bi a b c d false) := halloc (halloc hy0 (bi a b c d false)) (bi a' b' c' d' e')
  have s2 : ((w1.alloc (bi a b c d false)).alloc (bi a' b' c' d' e')).heap[w.heap.size + 1]? = some (bi a' b' c' d' e') := halloc (halloc hy1 (bi a b c d false)) (bi a' b' c' d' e')
  have q2 : ((w1.alloc (bi a b c d false)).alloc (bi a' b' c' d' e')).heap[w.heap.size + 1 + 1]? = some (bi false false false false false) := halloc (halloc hy2 (bi a b c d false)) (bi a' b' c' d' e')
  have r2 : ((w1.alloc (bi a b c d false)).alloc (bi a' b' c' d' e')).heap[w.heap.size + 1 + 1 + 1]? = some (bi false false false false false) := halloc (halloc hy3 (bi a b c d false)) (bi a' b' c' d' e')
  have n2 : ((w1.alloc (bi a b c d false)).alloc (bi a' b' c' d' e')).heap[w1.heap.size]? = some (bi a b c d false) := halloc n1 (bi a' b' c' d' e')
  have D2 : Below w.heap.size w ((w1.alloc (bi a b c d false)).alloc (bi a' b' c' d' e')) := below_alloc0 (below_alloc0 D _) _
  obtain ⟨⟨_, _, _, _, _⟩, ⟨_, _, _, _, _⟩, _⟩ := iopen5 p2
  obtain ⟨⟨_, _, _, _, _⟩, ⟨_, _, _, _, _⟩, _⟩ := iopen5 s2
  obtain ⟨⟨_, _, _, _, _⟩, ⟨_, _, _, _, _⟩, _⟩ := iopen5 n2
  obtain ⟨⟨_, _, _, _, _⟩, ⟨_, _, _, _, _⟩, _⟩ := iopen5 m2
  have n3 : ((w1.alloc (bi a b c d true)).alloc (bi a' b' c' d' e')).heap[w1.heap.size]? = some (bi a b c d true) := halloc (heap_alloc_new _ _) (bi a' b' c' d' e')
  have m3 : ((w1.alloc (bi a b c d true)).alloc (bi a' b' c' d' e')).heap[w1.heap.size + 1]? = some (bi a' b' c' d' e') := by
    have := heap_alloc_new (w1.alloc (bi a b c d true)) (bi a' b' c' d' e')
    simpa only [size_alloc] using this
  have q3 : ((w1.alloc (bi a b c d true)).alloc (bi a' b' c' d' e')).heap[w.heap.size + 1 + 1]? = some (bi false false false false false) := halloc (halloc hy2 (bi a b c d true)) (bi a' b' c' d' e')
  have r3 : ((w1.alloc (bi a b c d true)).alloc (bi a' b' c' d' e')).heap[w.heap.size + 1 + 1 + 1]? = some (bi false false false false false) := halloc (halloc hy3 (bi a b c d true)) (bi a' b' c' d' e')
  have D3 : Below w.heap.size w ((w1.alloc (bi a b c d true)).alloc (bi a' b' c' d' e')) := below_alloc0 (below_alloc0 D _) _
  obtain ⟨⟨_, _, _, _, _⟩, ⟨_, _, _, _, _⟩, _⟩ := iopen5 n3
  obtain ⟨⟨_, _, _, _, _⟩, ⟨_, _, _, _, _⟩, _⟩ := iopen5 m3
  obtain ⟨⟨_, _, _, _, _⟩, ⟨_, _, _, _, _⟩, _⟩ := iopen5 q3
  obtain ⟨⟨_, _, _, _, _⟩, ⟨_, _, _, _, _⟩, _⟩ := iopen5 r3
  go_wp2_with fail
  go_region
  all_goals (try go_wp2)
  all_goals (try simp only [Exit.inBlock, Exit.then])
  (refine bodyPost_cct rfl (w.heap.size + 1 + 1) (w.heap.size + 1 + 1 + 1) 103 103 #[.bool a, .bool b, .bool c, .bool d, .bool true] #[.bool a', .bool b', .bool c', .bool d', .bool e'] (0, 0) (0, 0) _ rfl rfl ?_ ?_ Tryz.underlying103 rfl info_it5 rfl rfl ⟨?_, ?_⟩)
  · refine heap_drew' ?_
    exact (put5_ne (w := put5 ((w1.alloc (bi a b c d true)).alloc (bi a' b' c' d' e')) (w.heap.size + 1 + 1) a b c d true) (g := w.heap.size + 1 + 1 + 1) (k := w.heap.size + 1 + 1) a' b' c' d' e' (by omega)).trans (put5_at a b c d true q3)
  · refine heap_drew' ?_
    exact put5_at (w := put5 ((w1.alloc (bi a b c d true)).alloc (bi a' b' c' d' e')) (w.heap.size + 1 + 1) a b c d true) (g := w.heap.size + 1 + 1 + 1) a' b' c' d' e' ((put5_ne (w := ((w1.alloc (bi a b c d true)).alloc (bi a' b' c' d' e'))) (g := w.heap.size + 1 + 1) (k := w.heap.size + 1 + 1 + 1) a b c d true (by omega)).trans r3)
  · rfl
  · exact (put5_below (put5_below D3 (w.heap.size + 1 + 1) (by omega) a b c d true) (w.heap.size + 1 + 1 + 1) (by omega) a' b' c' d' e').drew
set_option maxHeartbeats 16000000 in
set_option maxRecDepth 100000 in
theorem refact6_0 (a b c d a' b' c' d' e' : Bool) (w : World) (hf : Hid (fitI ⟨a, b, c, d, false⟩ ⟨a', b', c', d', e'⟩ = true)) :
    Calls Tryz.prog 158 #[.agg #[.bool a, .bool b, .bool c, .bool d, .bool false], .agg #[.bool a', .bool b', .bool c', .bool d', .bool e'], .int .i64 6] w fun x w' => x = .returned (.tuple #[.agg #[.bool a, .bool b, .bool c, .bool d, .bool false], .agg #[.bool a', .bool b', .bool c', .bool d', .bool e'], .int .i64 7]) ∧ Below w.heap.size w w' := by
  obtain ⟨hx0, hx1, hx2, hx3, DD⟩ := act_facts w (bi a b c d false) (bi a' b' c' d' e') (bi false false false false false)
  go_enter Tryz.func158, Tryz.ntmps158
  go_wp2_with fail
  with_reducible refine (re_ (refMayI_calls a b c d false a' b' c' d' e' _) (ret_bool hf.out)).mono ?_
  rintro x w1 ⟨rfl, b1⟩
  have hy0 := hcall hx0 b1
  have hy1 := hcall hx1 b1
  have hy2 := hcall hx2 b1
  have hy3 := hcall hx3 b1
  have D := below_call DD b1
  have hz0 : w.heap.size + 1 + 1 + 1 + 1 ≤ w1.heap.size := by
    have := b1.size
    simp only [size_alloc] at this
    exact this
  clear b1 DD hx0 hx1 hx2 hx3
  obtain ⟨⟨_, _, _, _, _⟩, ⟨_, _, _, _, _⟩, _⟩ := iopen5 hy0
  have n1 : (w1.alloc (bi a b c d false)).heap[w1.heap.size]? = some (bi a b c d false) := heap_alloc_new _ _
  have s1 : (w1.alloc (bi a b c d false)).heap[w.heap.size + 1]? = some (bi a' b' c' d' e') := halloc hy1 (bi a b c d false)
  obtain ⟨⟨_, _, _, _, _⟩, ⟨_, _, _, _, _⟩, _⟩ := iopen5 s1
  have m2 : ((w1.alloc (bi a b c d false)).alloc (bi a' b' c' d' e')).heap[w1.heap.size + 1]? = some (bi a' b' c' d' e') := by
    have := heap_alloc_new (w1.alloc (bi a b c d false)) (bi a' b' c' d' e')
    simpa only [size_alloc] using this
  have p2 : ((w1.alloc (bi a b c d false)).alloc (bi a' b' c' d' e')).heap[w.heap.size]? = some (bi a b c d false) := halloc (halloc hy0 (bi a b c d false)) (bi a' b' c' d' e')
  have s2 : ((w1.alloc (bi a b c d false)).alloc (bi a' b' c' d' e')).heap[w.heap.size + 1]? = some (bi a' b' c' d' e') := halloc (halloc hy1 (bi a b c d false)) (bi a' b' c' d' e')
  have q2 : ((w1.alloc (bi a b c d false)).alloc (bi a' b' c' d' e')).heap[w.heap.size + 1 + 1]? = some (bi false false false false false) := halloc (halloc hy2 (bi a b c d false)) (bi a' b' c' d' e')
  have r2 : ((w1.alloc (bi a b c d false)).alloc (bi a' b' c' d' e')).heap[w.heap.size + 1 + 1 + 1]? = some (bi false false false false false) := halloc (halloc hy3 (bi a b c d false)) (bi a' b' c' d' e')
  have n2 : ((w1.alloc (bi a b c d false)).alloc (bi a' b' c' d' e')).heap[w1.heap.size]? = some (bi a b c d false) := halloc n1 (bi a' b' c' d' e')
  have D2 : Below w.heap.size w ((w1.alloc (bi a b c d false)).alloc (bi a' b' c' d' e')) := below_alloc0 (below_alloc0 D _) _
  obtain ⟨⟨_, _, _, _, _⟩, ⟨_, _, _, _, _⟩, _⟩ := iopen5 p2
  obtain ⟨⟨_, _, _, _, _⟩, ⟨_, _, _, _, _⟩, _⟩ := iopen5 s2
  obtain ⟨⟨_, _, _, _, _⟩, ⟨_, _, _, _, _⟩, _⟩ := iopen5 q2
  obtain ⟨⟨_, _, _, _, _⟩, ⟨_, _, _, _, _⟩, _⟩ := iopen5 r2
  go_wp2_with fail
  go_region
  all_goals (try go_wp2)
  all_goals (try simp only [Exit.inBlock, Exit.then])
  (refine bodyPost_cct rfl (w.heap.size + 1 + 1) (w.heap.size + 1 + 1 + 1) 103 103 #[.bool a, .bool b, .bool c, .bool d, .bool false] #[.bool a', .bool b', .bool c', .bool d', .bool e'] (0, 0) (0, 0) _ rfl rfl ?_ ?_ Tryz.underlying103 rfl info_it5 rfl rfl ⟨?_, ?_⟩)
  · refine heap_drew' ?_
    exact (put5_ne (w := put5 ((w1.alloc (bi a b c d false)).alloc (bi a' b' c' d' e')) (w.heap.size + 1 + 1) a b c d false) (g := w.heap.size + 1 + 1 + 1) (k := w.heap.size + 1 + 1) a' b' c' d' e' (by omega)).trans (put5_at a b c d false q2)
  · refine heap_drew' ?_
    exact put5_at (w := put5 ((w1.alloc (bi a b c d false)).alloc (bi a' b' c' d' e')) (w.heap.size + 1 + 1) a b c d false) (g := w.heap.size + 1 + 1 + 1) a' b' c' d' e' ((put5_ne (w := ((w1.alloc (bi a b c d false)).alloc (bi a' b' c' d' e'))) (g := w.heap.size + 1 + 1) (k := w.heap.size + 1 + 1 + 1) a b c d false (by omega)).trans r2)
  · rfl
  · exact (put5_below (put5_below D2 (w.heap.size + 1 + 1) (by omega) a b c d false) (w.heap.size + 1 + 1 + 1) (by omega) a' b' c' d' e').drew
set_option maxHeartbeats 16000000 in
set_option maxRecDepth 100000 in
theorem refact6_1 (a b c d a' b' c' d' e' : Bool) (w : World) (hf : Hid (fitI ⟨a, b, c, d, true⟩ ⟨a', b', c', d', e'⟩ = true)) :
    Calls Tryz.prog 158 #[.agg #[.bool a, .bool b, .bool c, .bool d, .bool true], .agg #[.bool a', .bool b', .bool c', .bool d', .bool e'], .int .i64 6] w fun x w' => x = .returned (.tuple #[.agg #[.bool a, .bool b, .bool c, .bool d, .bool false], .agg #[.bool a', .bool b', .bool c', .bool d', .bool e'], .int .i64 0]) ∧ Below w.heap.size w w' := by
  obtain ⟨hx0, hx1, hx2, hx3, DD⟩ := act_facts w (bi a b c d true) (bi a' b' c' d' e') (bi false false false false false)
  go_enter Tryz.func158, Tryz.ntmps158
  go_wp2_with fail
  with_reducible refine (re_ (refMayI_calls a b c d true a' b' c' d' e' _) (ret_bool hf.out)).mono ?_
  rintro x w1 ⟨rfl, b1⟩
  have hy0 := hcall hx0 b1
  have hy1 := hcall hx1 b1
  have hy2 := hcall hx2 b1
  have hy3 := hcall hx3 b1
  have D := below_call DD b1
  have hz0 : w.heap.size + 1 + 1 + 1 + 1 ≤ w1.heap.size := by
    have := b1.size
    simp only [size_alloc] at this
    exact this
  clear b1 DD hx0 hx1 hx2 hx3
  obtain ⟨⟨_, _, _, _, _⟩, ⟨_, _, _, _, _⟩, _⟩ := iopen5 hy0
  have n1 : (w1.alloc (bi a b c d true)).heap[w1.heap.size]? = some (bi a b c d true) := heap_alloc_new _ _
  have s1 : (w1.alloc (bi a b c d true)).heap[w.heap.size + 1]? = some (bi a' b' c' d' e') := halloc hy1 (bi a b c d true)
  obtain ⟨⟨_, _, _, _, _⟩, ⟨_, _, _, _, _⟩, _⟩ := iopen5 s1
  have m2 : ((w1.alloc (bi a b c d true)).alloc (bi a' b' c' d' e')).heap[w1.heap.size + 1]? = some (bi a' b' c' d' e') := by
    have := heap_alloc_new (w1.alloc (bi a b c d true)) (bi a' b' c' d' e')
    simpa only [size_alloc] using this
  have p2 : ((w1.alloc (bi a b c d true)).alloc (bi a' b' c' d' e')).heap[w.heap.size]? = some (bi a b c d true) := halloc (halloc hy0 (bi a b c d true)) (bi a' b' c' d' e')
  have s2 : ((w1.alloc (bi a b c d true)).alloc (bi a' b' c' d' e')).heap[w.heap.size + 1]? = some (bi a' b' c' d' e') := halloc (halloc hy1 (bi a b c d true)) (bi a' b' c' d' e')
  have q2 : ((w1.alloc (bi a b c d true)).alloc (bi a' b' c' d' e')).heap[w.heap.size + 1 + 1]? = some (bi false false false false false) := halloc (halloc hy2 (bi a b c d true)) (bi a' b' c' d' e')
  have r2 : ((w1.alloc (bi a b c d true)).alloc (bi a' b' c' d' e')).heap[w.heap.size + 1 + 1 + 1]? = some (bi false false false false false) := halloc (halloc hy3 (bi a b c d true)) (bi a' b' c' d' e')
  have n2 : ((w1.alloc (bi a b c d true)).alloc (bi a' b' c' d' e')).heap[w1.heap.size]? = some (bi a b c d true) := halloc n1 (bi a' b' c' d' e')
  have D2 : Below w.heap.size w ((w1.alloc (bi a b c d true)).alloc (bi a' b' c' d' e')) := below_alloc0 (below_alloc0 D _) _
  obtain ⟨⟨_, _, _, _, _⟩, ⟨_, _, _, _, _⟩, _⟩ := iopen5 p2
  obtain ⟨⟨_, _, _, _, _⟩, ⟨_, _, _, _, _⟩, _⟩ := iopen5 s2
  obtain ⟨⟨_, _, _, _, _⟩, ⟨_, _, _, _, _⟩, _⟩ := iopen5 n2
  obtain ⟨⟨_, _, _, _, _⟩, ⟨_, _, _, _, _⟩, _⟩ := iopen5 m2
  have n3 : ((w1.alloc (bi a b c d false)).alloc (bi a' b' c' d' e')).heap[w1.heap.size]? = some (bi a b c d false) := halloc (heap_alloc_new _ _) (bi a' b' c' d' e')
  have m3 : ((w1.alloc (bi a b c d false)).alloc (bi a' b' c' d' e')).heap[w1.heap.size + 1]? = some (bi a' b' c' d' e') := by
    have := heap_alloc_new (w1.alloc (bi a b c d false)) (bi a' b' c' d' e')
    simpa only [size_alloc] using this
  have q3 : ((w1.alloc (bi a b c d false)).alloc (bi a' b' c' d' e')).heap[w.heap.size + 1 + 1]? = some (bi false false false false false) := halloc (halloc hy2 (bi a b c d false)) (bi a' b' c' d' e')
  have r3 : ((w1.alloc (bi a b c d false)).alloc (bi a' b' c' d' e')).heap[w.heap.size + 1 + 1 + 1]? = some (bi false false false false false) := halloc (halloc hy3 (bi a b c d false)) (bi a' b' c' d' e')
  have D3 : Below w.heap.size w ((w1.alloc (bi a b c d false)).alloc (bi a' b' c' d' e')) := below_alloc0 (below_alloc0 D _) _
  obtain ⟨⟨_, _, _, _, _⟩, ⟨_, _, _, _, _⟩, _⟩ := iopen5 n3
  obtain ⟨⟨_, _, _, _, _⟩, ⟨_, _, _, _, _⟩, _⟩ := iopen5 m3
  obtain ⟨⟨_, _, _, _, _⟩, ⟨_, _, _, _, _⟩, _⟩ := iopen5 q3
  obtain ⟨⟨_, _, _, _, _⟩, ⟨_, _, _, _, _⟩, _⟩ := iopen5 r3
  go_wp2_with fail
  go_region
  all_goals (try go_wp2)
  all_goals (try simp only [Exit.inBlock, Exit.then])
  (refine bodyPost_cct rfl (w.heap.size + 1 + 1) (w.heap.size + 1 + 1 + 1) 103 103 #[.bool a, .bool b, .bool c, .bool d, .bool false] #[.bool a', .bool b', .bool c', .bool d', .bool e'] (0, 0) (0, 0) _ rfl rfl ?_ ?_ Tryz.underlying103 rfl info_it5 rfl rfl ⟨?_, ?_⟩)
  · refine heap_drew' ?_
    exact (put5_ne (w := put5 ((w1.alloc (bi a b c d false)).alloc (bi a' b' c' d' e')) (w.heap.size + 1 + 1) a b c d false) (g := w.heap.size + 1 + 1 + 1) (k := w.heap.size + 1 + 1) a' b' c' d' e' (by omega)).trans (put5_at a b c d false q3)
  · refine heap_drew' ?_
    exact put5_at (w := put5 ((w1.alloc (bi a b c d false)).alloc (bi a' b' c' d' e')) (w.heap.size + 1 + 1) a b c d false) (g := w.heap.size + 1 + 1 + 1) a' b' c' d' e' ((put5_ne (w := ((w1.alloc (bi a b c d false)).alloc (bi a' b' c' d' e'))) (g := w.heap.size + 1 + 1) (k := w.heap.size + 1 + 1 + 1) a b c d false (by omega)).trans r3)
  · rfl
  · exact (put5_below (put5_below D3 (w.heap.size + 1 + 1) (by omega) a b c d false) (w.heap.size + 1 + 1 + 1) (by omega) a' b' c' d' e').drew
set_option maxHeartbeats 16000000 in
set_option maxRecDepth 100000 in
theorem refAct_calls (a b c d e a' b' c' d' e' : Bool) (k : Int) (w : World) :
    Calls Tryz.prog 158 #[agI a b c d e, agI a' b' c' d' e', .int .i64 k] w fun x w' => x = .returned (.tuple #[vaIt (actI ⟨a, b, c, d, e⟩ ⟨a', b', c', d', e'⟩ k).1, vaIt (actI ⟨a, b, c, d, e⟩ ⟨a', b', c', d', e'⟩ k).2.1, .int .i64 (actI ⟨a, b, c, d, e⟩ ⟨a', b', c', d', e'⟩ k).2.2]) ∧ Below w.heap.size w w' := by
  cases hf : fitI ⟨a, b, c, d, e⟩ ⟨a', b', c', d', e'⟩ with
  | false =>
    have e1 : actI ⟨a, b, c, d, e⟩ ⟨a', b', c', d', e'⟩ k = (⟨a, b, c, d, e⟩, ⟨a', b', c', d', e'⟩, 1) := by unfold actI; rw [if_pos hf]
    rw [e1]
    exact refactU a b c d e a' b' c' d' e' k w hf
  | true =>
  by_cases h1 : k < 1
  · have e1 : actI ⟨a, b, c, d, e⟩ ⟨a', b', c', d', e'⟩ k = (⟨a, b, c, d, e⟩, ⟨a', b', c', d', e'⟩, 1) := by unfold actI; rw [if_neg (by rw [hf]; decide), if_neg (by omega), if_neg (by omega), if_neg (by omega), if_neg (by omega), if_neg (by omega), if_neg (by omega)]
    rw [e1]
    exact refactL a b c d e a' b' c' d' e' k h1 w hf
  by_cases h6 : 6 < k
  · have e1 : actI ⟨a, b, c, d, e⟩ ⟨a', b', c', d', e'⟩ k = (⟨a, b, c, d, e⟩, ⟨a', b', c', d', e'⟩, 1) := by unfold actI; rw [if_neg (by rw [hf]; decide), if_neg (by omega), if_neg (by omega), if_neg (by omega), if_neg (by omega), if_neg (by omega), if_neg (by omega)]
    rw [e1]
    exact refactG a b c d e a' b' c' d' e' k h6 w hf
  obtain rfl | rfl | rfl | rfl | rfl | rfl : k = 1 ∨ k = 2 ∨ k = 3 ∨ k = 4 ∨ k = 5 ∨ k = 6 := by omega
  · cases e with
    | true =>
      have e1 : actI ⟨a, b, c, d, true⟩ ⟨a', b', c', d', e'⟩ 1 = (⟨a, b, c, d, true⟩, ⟨a', b', c', d', e'⟩, 8) := by
        unfold actI
        rw [if_neg (by rw [hf]; decide)]
        unfold fitI at hf
        simp_all
      rw [e1]
      exact refact1_0 a b c d a' b' c' d' e' w hf
    | false =>
      cases e' with
      | true =>
        have e1 : actI ⟨a, b, c, d, false⟩ ⟨a', b', c', d', true⟩ 1 = (⟨a, b, c, d, false⟩, ⟨a', b', c', d', true⟩, 8) := by
          unfold actI
          rw [if_neg (by rw [hf]; decide)]
          unfold fitI at hf
          simp_all
        rw [e1]
        exact refact1_1 a b c d a' b' c' d' w hf
      | false =>
        cases a with
        | true =>
          have e1 : actI ⟨true, b, c, d, false⟩ ⟨a', b', c', d', false⟩ 1 = (⟨true, b, c, d, false⟩, ⟨a', b', c', d', false⟩, 7) := by
            unfold actI
            rw [if_neg (by rw [hf]; decide)]
            unfold fitI at hf
            simp_all
          rw [e1]
          exact refact1_2 b c d a' b' c' d' w hf
        | false =>
          cases c with
          | true =>
            have e1 : actI ⟨false, b, true, d, false⟩ ⟨a', b', c', d', false⟩ 1 = (⟨false, b, true, d, false⟩, ⟨a', b', c', d', false⟩, 7) := by
              unfold actI
              rw [if_neg (by rw [hf]; decide)]
              unfold fitI at hf
              simp_all
            rw [e1]
            exact refact1_3 b d a' b' c' d' w hf
          | false =>
            have e1 : actI ⟨false, b, false, d, false⟩ ⟨a', b', c', d', false⟩ 1 = (⟨false, b, true, d, false⟩, ⟨a', b', c', true, false⟩, 0) := by
              unfold actI
              rw [if_neg (by rw [hf]; decide)]
              unfold fitI at hf
              simp_all
            rw [e1]
            exact refact1_4 b d a' b' c' d' w hf
  · cases e with
    | true =>
      have e1 : actI ⟨a, b, c, d, true⟩ ⟨a', b', c', d', e'⟩ 2 = (⟨a, b, c, d, true⟩, ⟨a', b', c', d', e'⟩, 8) := by
        unfold actI
        rw [if_neg (by rw [hf]; decide)]
        unfold fitI at hf
        simp_all
      rw [e1]
      exact refact2_0 a b c d a' b' c' d' e' w hf
    | false =>
      cases e' with
      | true =>
        have e1 : actI ⟨a, b, c, d, false⟩ ⟨a', b', c', d', true⟩ 2 = (⟨a, b, c, d, false⟩, ⟨a', b', c', d', true⟩, 8) := by
          unfold actI
          rw [if_neg (by rw [hf]; decide)]
          unfold fitI at hf
          simp_all
        rw [e1]
        exact refact2_1 a b c d a' b' c' d' w hf
      | false =>
        cases d with
        | true =>
          have e1 : actI ⟨a, b, c, true, false⟩ ⟨a', b', c', d', false⟩ 2 = (⟨a, true, c, false, false⟩, ⟨true, b', false, d', false⟩, 0) := by
            unfold actI
            rw [if_neg (by rw [hf]; decide)]
            unfold fitI at hf
            simp_all
          rw [e1]
          exact refact2_3 a b c a' b' c' d' w hf
        | false =>
          have e1 : actI ⟨a, b, c, false, false⟩ ⟨a', b', c', d', false⟩ 2 = (⟨a, b, c, false, false⟩, ⟨a', b', c', d', false⟩, 7) := by
            unfold actI
            rw [if_neg (by rw [hf]; decide)]
            unfold fitI at hf
            simp_all
          rw [e1]
          exact refact2_2 a b c a' b' c' d' w hf
  · cases a with
    | true =>
      have e1 : actI ⟨true, b, c, d, e⟩ ⟨a', b', c', d', e'⟩ 3 = (⟨false, b, false, d, e⟩, ⟨a', false, c', false, e'⟩, 0) := by
        unfold actI
        rw [if_neg (by rw [hf]; decide)]
        unfold fitI at hf
        simp_all
      rw [e1]
      exact refact3_1 b c d e a' b' c' d' e' w hf
    | false =>
      cases c with
      | true =>
        have e1 : actI ⟨false, b, true, d, e⟩ ⟨a', b', c', d', e'⟩ 3 = (⟨false, b, false, d, e⟩, ⟨a', false, c', false, e'⟩, 0) := by
          unfold actI
          rw [if_neg (by rw [hf]; decide)]
          unfold fitI at hf
          simp_all
        rw [e1]
        exact refact3_2 b d e a' b' c' d' e' w hf
      | false =>
        have e1 : actI ⟨false, b, false, d, e⟩ ⟨a', b', c', d', e'⟩ 3 = (⟨false, b, false, d, e⟩, ⟨a', b', c', d', e'⟩, 7) := by
          unfold actI
          rw [if_neg (by rw [hf]; decide)]
          unfold fitI at hf
          simp_all
        rw [e1]
        exact refact3_0 b d e a' b' c' d' e' w hf
  · cases b with
    | true =>
      have e1 : actI ⟨a, true, c, d, e⟩ ⟨a', b', c', d', e'⟩ 4 = (⟨a, false, c, false, e⟩, ⟨false, b', false, d', e'⟩, 0) := by
        unfold actI
        rw [if_neg (by rw [hf]; decide)]
        unfold fitI at hf
        simp_all
      rw [e1]
      exact refact4_1 a c d e a' b' c' d' e' w hf
    | false =>
      cases d with
      | true =>
        have e1 : actI ⟨a, false, c, true, e⟩ ⟨a', b', c', d', e'⟩ 4 = (⟨a, false, c, false, e⟩, ⟨false, b', false, d', e'⟩, 0) := by
          unfold actI
          rw [if_neg (by rw [hf]; decide)]
          unfold fitI at hf
          simp_all
        rw [e1]
        exact refact4_2 a c e a' b' c' d' e' w hf
      | false =>
        have e1 : actI ⟨a, false, c, false, e⟩ ⟨a', b', c', d', e'⟩ 4 = (⟨a, false, c, false, e⟩, ⟨a', b', c', d', e'⟩, 7) := by
          unfold actI
          rw [if_neg (by rw [hf]; decide)]
          unfold fitI at hf
          simp_all
        rw [e1]
        exact refact4_0 a c e a' b' c' d' e' w hf
  · cases e with
    | true =>
      have e1 : actI ⟨a, b, c, d, true⟩ ⟨a', b', c', d', e'⟩ 5 = (⟨a, b, c, d, true⟩, ⟨a', b', c', d', e'⟩, 7) := by
        unfold actI
        rw [if_neg (by rw [hf]; decide)]
        unfold fitI at hf
        simp_all
      rw [e1]
      exact refact5_0 a b c d a' b' c' d' e' w hf
    | false =>
      have e1 : actI ⟨a, b, c, d, false⟩ ⟨a', b', c', d', e'⟩ 5 = (⟨a, b, c, d, true⟩, ⟨a', b', c', d', e'⟩, 0) := by
        unfold actI
        rw [if_neg (by rw [hf]; decide)]
        unfold fitI at hf
        simp_all
      rw [e1]
      exact refact5_1 a b c d a' b' c' d' e' w hf
  · cases e with
    | true =>
      have e1 : actI ⟨a, b, c, d, true⟩ ⟨a', b', c', d', e'⟩ 6 = (⟨a, b, c, d, false⟩, ⟨a', b', c', d', e'⟩, 0) := by
        unfold actI
        rw [if_neg (by rw [hf]; decide)]
        unfold fitI at hf
        simp_all
      rw [e1]
      exact refact6_1 a b c d a' b' c' d' e' w hf
    | false =>
      have e1 : actI ⟨a, b, c, d, false⟩ ⟨a', b', c', d', e'⟩ 6 = (⟨a, b, c, d, false⟩, ⟨a', b', c', d', e'⟩, 7) := by
        unfold actI
        rw [if_neg (by rw [hf]; decide)]
        unfold fitI at hf
        simp_all
      rw [e1]
      exact refact6_0 a b c d a' b' c' d' e' w hf
end Go.Proofs.YtbpfcjdjhponaaaGreat
