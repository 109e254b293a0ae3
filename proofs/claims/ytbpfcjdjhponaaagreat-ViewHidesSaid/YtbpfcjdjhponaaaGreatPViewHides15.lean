import Derived.RangeFuncNested
import Derived.RangeFuncBound
import Derived.RangeFuncCalls
import Derived.RangeFuncLeaves
import Derived.Shelf.Abstract
import Derived.Shelf.RegionOpen
import Derived.WalkKit
import Derived.OwnWalkIn
import Derived.TacticsInMore
import Derived.LoopNIn
import Derived.LoopIn
import Derived.Maps.AppendAt
import Derived.Test.YtbpfcjdjhponaaaGreatPViewHides14
set_option linter.unusedVariables false
set_option linter.unusedSimpArgs false
namespace Go.Proofs.YtbpfcjdjhponaaaGreat
open Go.RowKit
open Sp
section
variable (n c : Nat) (A : Option Addr) (l : List En) (m d : Nat) (B : Option Addr) (s : List Se) (w : World) (hl : Row enEn 7 w (.slice A n c) l) (hs : Row enSe 6 w (.slice B m d) s) (hz : SzRo l) (hy : SzSe s) (hn : n ≤ 900)
include hl hs hz hy hn
set_option maxHeartbeats 16000000 in
set_option maxRecDepth 100000 in
theorem rapply_no (k : Int) (u o : ByteArray) (i a p q : Int) (t : ByteArray) (er : Int) (r : Sta) (HM : Hid (mayT (l, s) = false)) (h : Hid (r = (l, s) ∧ er = 1)) :
    Calls Tryz.prog 62 #[agT A n c B m d, .agg #[.int .i64 k, .string u, .string o, .int .i64 i, .int .i64 a, .int .i64 p, .int .i64 q, .string t]] w fun x w' => ∃ A' n' c' B' m' d', x = .returned (.tuple #[agT A' n' c' B' m' d', .int .i64 er]) ∧ Row enEn 7 w' (.slice A' n' c') r.1 ∧ Row enSe 6 w' (.slice B' m' d') r.2 ∧ Below w.heap.size w w' ∧ Fresh w (.slice A n c) (.slice A' n' c') ∧ Fresh w (.slice B m d) (.slice B' m' d') := by
  have D : Below w.heap.size w (((w.alloc (bxT A n c B m d)).alloc (bxEv k u o i a p q t)).alloc (bxT none 0 0 none 0 0)) := below_alloc0 (below_alloc0 (below_box _) _) _
  have S0 := halloc (halloc (heap_alloc_new w (bxT A n c B m d)) (bxEv k u o i a p q t)) (bxT none 0 0 none 0 0)
  have E0 := halloc (heap_alloc_new (w.alloc (bxT A n c B m d)) (bxEv k u o i a p q t)) (bxT none 0 0 none 0 0)
  have Z0 := heap_alloc_new ((w.alloc (bxT A n c B m d)).alloc (bxEv k u o i a p q t)) (bxT none 0 0 none 0 0)
  simp only [size_alloc] at E0 Z0
  replace hl := hl.below D
  replace hs := hs.below D
  obtain ⟨⟨s0, s1⟩, ⟨sf0, sf1⟩, sz⟩ := openT S0
  go_enter Tryz.func62, Tryz.ntmps62
  go_wp2_with fail
  with_reducible refine (refMayT_is n c A l m d B s _ hl hs hz hy (by omega) false HM).mono ?_
  rintro e w1 ⟨rfl, b1⟩
  replace hl := hl.below b1
  replace hs := hs.below b1
  replace S0 := hcall S0 b1
  replace E0 := hcall E0 b1
  replace Z0 := hcall Z0 b1
  replace D := below_call D b1
  clear b1 s0 s1 sf0 sf1 sz
  have hz6 : w.heap.size + 1 + 1 < w1.heap.size := (Array.getElem?_eq_some_iff.1 Z0).1
  obtain ⟨⟨s0, s1⟩, ⟨sf0, sf1⟩, sz⟩ := openT S0
  obtain ⟨⟨z0, z1⟩, ⟨zf0, zf1⟩, zz⟩ := openT Z0
  have Z6 : (w1.setCell ⟨w.heap.size + 1 + 1, 0, none⟩ (.slice A n c)).heap[w.heap.size + 1 + 1]? = some (bxT A n c none 0 0) := hset0 Z0 A n c
  have Z7 : ((w1.setCell ⟨w.heap.size + 1 + 1, 0, none⟩ (.slice A n c)).setCell ⟨w.heap.size + 1 + 1, 1, none⟩ (.slice B m d)).heap[w.heap.size + 1 + 1]? = some (bxT A n c B m d) := hset1 Z6 B m d
  have D7 := bset (bset D (w.heap.size + 1 + 1) 0 (.slice A n c) (by omega)) (w.heap.size + 1 + 1) 1 (.slice B m d) (by omega)
  have hl7 := Row.setT (Row.setT hl nsEn Z0 0 (.slice A n c)) nsEn Z6 1 (.slice B m d)
  have hs7 := Row.setT (Row.setT hs nsSe Z0 0 (.slice A n c)) nsSe Z6 1 (.slice B m d)
  obtain ⟨⟨y0, y1⟩, ⟨yf0, yf1⟩, yz⟩ := openT Z6
  go_wp2
  (try simp only [Exit.inBlock, Exit.then])
  (refine bodyPost_ct rfl (w.heap.size + 1 + 1) 25 #[.slice A n c, .slice B m d] (0, 0) _ rfl ?_ Tryz.underlying25 rfl info_st rfl ?_)
  · exact Z7
  · rw [h.out.1, h.out.2]
    exact ⟨A, n, c, B, m, d, rfl, hl7, hs7, D7, .self, .self⟩
set_option maxHeartbeats 16000000 in
set_option maxRecDepth 100000 in
theorem rapply_lo (k : Int) (u o : ByteArray) (i a p q : Int) (t : ByteArray) (er : Int) (r : Sta) (HM : Hid (mayT (l, s) = true)) (H1 : Hid (decide (k < 1) = true)) (h : Hid (r = (l, s) ∧ er = 1)) :
    Calls Tryz.prog 62 #[agT A n c B m d, .agg #[.int .i64 k, .string u, .string o, .int .i64 i, .int .i64 a, .int .i64 p, .int .i64 q, .string t]] w fun x w' => ∃ A' n' c' B' m' d', x = .returned (.tuple #[agT A' n' c' B' m' d', .int .i64 er]) ∧ Row enEn 7 w' (.slice A' n' c') r.1 ∧ Row enSe 6 w' (.slice B' m' d') r.2 ∧ Below w.heap.size w w' ∧ Fresh w (.slice A n c) (.slice A' n' c') ∧ Fresh w (.slice B m d) (.slice B' m' d') := by
  have D : Below w.heap.size w (((w.alloc (bxT A n c B m d)).alloc (bxEv k u o i a p q t)).alloc (bxT none 0 0 none 0 0)) := below_alloc0 (below_alloc0 (below_box _) _) _
  have S0 := halloc (halloc (heap_alloc_new w (bxT A n c B m d)) (bxEv k u o i a p q t)) (bxT none 0 0 none 0 0)
  have E0 := halloc (heap_alloc_new (w.alloc (bxT A n c B m d)) (bxEv k u o i a p q t)) (bxT none 0 0 none 0 0)
  have Z0 := heap_alloc_new ((w.alloc (bxT A n c B m d)).alloc (bxEv k u o i a p q t)) (bxT none 0 0 none 0 0)
  simp only [size_alloc] at E0 Z0
  replace hl := hl.below D
  replace hs := hs.below D
  obtain ⟨⟨s0, s1⟩, ⟨sf0, sf1⟩, sz⟩ := openT S0
  go_enter Tryz.func62, Tryz.ntmps62
  go_wp2_with fail
  with_reducible refine (refMayT_is n c A l m d B s _ hl hs hz hy (by omega) true HM).mono ?_
  rintro e w1 ⟨rfl, b1⟩
  replace hl := hl.below b1
  replace hs := hs.below b1
  replace S0 := hcall S0 b1
  replace E0 := hcall E0 b1
  replace Z0 := hcall Z0 b1
  replace D := below_call D b1
  clear b1 s0 s1 sf0 sf1 sz
  have hz6 : w.heap.size + 1 + 1 < w1.heap.size := (Array.getElem?_eq_some_iff.1 Z0).1
  obtain ⟨⟨s0, s1⟩, ⟨sf0, sf1⟩, sz⟩ := openT S0
  obtain ⟨⟨z0, z1⟩, ⟨zf0, zf1⟩, zz⟩ := openT Z0
  obtain ⟨e0, e1, e2, e3, e4, e5, e6, e7, ez⟩ := cellsEv k u o i a p q t E0
  have g1 := H1.out
  have g1' : k < 1 := of_decide_eq_true g1
  have Z6 : (w1.setCell ⟨w.heap.size + 1 + 1, 0, none⟩ (.slice A n c)).heap[w.heap.size + 1 + 1]? = some (bxT A n c none 0 0) := hset0 Z0 A n c
  have Z7 : ((w1.setCell ⟨w.heap.size + 1 + 1, 0, none⟩ (.slice A n c)).setCell ⟨w.heap.size + 1 + 1, 1, none⟩ (.slice B m d)).heap[w.heap.size + 1 + 1]? = some (bxT A n c B m d) := hset1 Z6 B m d
  have D7 := bset (bset D (w.heap.size + 1 + 1) 0 (.slice A n c) (by omega)) (w.heap.size + 1 + 1) 1 (.slice B m d) (by omega)
  have hl7 := Row.setT (Row.setT hl nsEn Z0 0 (.slice A n c)) nsEn Z6 1 (.slice B m d)
  have hs7 := Row.setT (Row.setT hs nsSe Z0 0 (.slice A n c)) nsSe Z6 1 (.slice B m d)
  obtain ⟨⟨y0, y1⟩, ⟨yf0, yf1⟩, yz⟩ := openT Z6
  go_wp2
  (try simp only [Exit.inBlock, Exit.then])
  (refine bodyPost_ct rfl (w.heap.size + 1 + 1) 25 #[.slice A n c, .slice B m d] (0, 0) _ rfl ?_ Tryz.underlying25 rfl info_st rfl ?_)
  · exact Z7
  · rw [h.out.1, h.out.2]
    exact ⟨A, n, c, B, m, d, rfl, hl7, hs7, D7, .self, .self⟩
set_option maxHeartbeats 16000000 in
set_option maxRecDepth 100000 in
theorem rapply_hi (k : Int) (u o : ByteArray) (i a p q : Int) (t : ByteArray) (er : Int) (r : Sta) (HM : Hid (mayT (l, s) = true)) (H1 : Hid (decide (k < 1) = false)) (H8 : Hid (decide (8 < k) = true)) (h : Hid (r = (l, s) ∧ er = 1)) :
    Calls Tryz.prog 62 #[agT A n c B m d, .agg #[.int .i64 k, .string u, .string o, .int .i64 i, .int .i64 a, .int .i64 p, .int .i64 q, .string t]] w fun x w' => ∃ A' n' c' B' m' d', x = .returned (.tuple #[agT A' n' c' B' m' d', .int .i64 er]) ∧ Row enEn 7 w' (.slice A' n' c') r.1 ∧ Row enSe 6 w' (.slice B' m' d') r.2 ∧ Below w.heap.size w w' ∧ Fresh w (.slice A n c) (.slice A' n' c') ∧ Fresh w (.slice B m d) (.slice B' m' d') := by
  have D : Below w.heap.size w (((w.alloc (bxT A n c B m d)).alloc (bxEv k u o i a p q t)).alloc (bxT none 0 0 none 0 0)) := below_alloc0 (below_alloc0 (below_box _) _) _
  have S0 := halloc (halloc (heap_alloc_new w (bxT A n c B m d)) (bxEv k u o i a p q t)) (bxT none 0 0 none 0 0)
  have E0 := halloc (heap_alloc_new (w.alloc (bxT A n c B m d)) (bxEv k u o i a p q t)) (bxT none 0 0 none 0 0)
  have Z0 := heap_alloc_new ((w.alloc (bxT A n c B m d)).alloc (bxEv k u o i a p q t)) (bxT none 0 0 none 0 0)
  simp only [size_alloc] at E0 Z0
  replace hl := hl.below D
  replace hs := hs.below D
  obtain ⟨⟨s0, s1⟩, ⟨sf0, sf1⟩, sz⟩ := openT S0
  go_enter Tryz.func62, Tryz.ntmps62
  go_wp2_with fail
  with_reducible refine (refMayT_is n c A l m d B s _ hl hs hz hy (by omega) true HM).mono ?_
  rintro e w1 ⟨rfl, b1⟩
  replace hl := hl.below b1
  replace hs := hs.below b1
  replace S0 := hcall S0 b1
  replace E0 := hcall E0 b1
  replace Z0 := hcall Z0 b1
  replace D := below_call D b1
  clear b1 s0 s1 sf0 sf1 sz
  have hz6 : w.heap.size + 1 + 1 < w1.heap.size := (Array.getElem?_eq_some_iff.1 Z0).1
  obtain ⟨⟨s0, s1⟩, ⟨sf0, sf1⟩, sz⟩ := openT S0
  obtain ⟨⟨z0, z1⟩, ⟨zf0, zf1⟩, zz⟩ := openT Z0
  obtain ⟨e0, e1, e2, e3, e4, e5, e6, e7, ez⟩ := cellsEv k u o i a p q t E0
  have g1 := H1.out
  have g1' : ¬ k < 1 := of_decide_eq_false g1
  have g8 := H8.out
  have g8' : 8 < k := of_decide_eq_true g8
  have Z6 : (w1.setCell ⟨w.heap.size + 1 + 1, 0, none⟩ (.slice A n c)).heap[w.heap.size + 1 + 1]? = some (bxT A n c none 0 0) := hset0 Z0 A n c
  have Z7 : ((w1.setCell ⟨w.heap.size + 1 + 1, 0, none⟩ (.slice A n c)).setCell ⟨w.heap.size + 1 + 1, 1, none⟩ (.slice B m d)).heap[w.heap.size + 1 + 1]? = some (bxT A n c B m d) := hset1 Z6 B m d
  have D7 := bset (bset D (w.heap.size + 1 + 1) 0 (.slice A n c) (by omega)) (w.heap.size + 1 + 1) 1 (.slice B m d) (by omega)
  have hl7 := Row.setT (Row.setT hl nsEn Z0 0 (.slice A n c)) nsEn Z6 1 (.slice B m d)
  have hs7 := Row.setT (Row.setT hs nsSe Z0 0 (.slice A n c)) nsSe Z6 1 (.slice B m d)
  obtain ⟨⟨y0, y1⟩, ⟨yf0, yf1⟩, yz⟩ := openT Z6
  go_wp2
  (try simp only [Exit.inBlock, Exit.then])
  (refine bodyPost_ct rfl (w.heap.size + 1 + 1) 25 #[.slice A n c, .slice B m d] (0, 0) _ rfl ?_ Tryz.underlying25 rfl info_st rfl ?_)
  · exact Z7
  · rw [h.out.1, h.out.2]
    exact ⟨A, n, c, B, m, d, rfl, hl7, hs7, D7, .self, .self⟩
set_option maxHeartbeats 16000000 in
set_option maxRecDepth 100000 in
theorem rapply_ros_er (k : Int) (u o : ByteArray) (i a p q : Int) (t : ByteArray) (er : Int) (r9l : List En) (r : Sta) (HM : Hid (mayT (l, s) = true)) (H1 : Hid (decide (k < 1) = false)) (H8 : Hid (decide (8 < k) = false)) (H6 : Hid (decide (k ≤ 6) = true)) (hu : u.size ≤ 140737488351232) (ho : o.size ≤ 140737488351232) (HR : Hid (doRo l k u o = (r9l, er))) (hne : Hid ((er == 0) = false)) (h : Hid (r = (l, s) ∧ er = er)) :
    Calls Tryz.prog 62 #[agT A n c B m d, .agg #[.int .i64 k, .string u, .string o, .int .i64 i, .int .i64 a, .int .i64 p, .int .i64 q, .string t]] w fun x w' => ∃ A' n' c' B' m' d', x = .returned (.tuple #[agT A' n' c' B' m' d', .int .i64 er]) ∧ Row enEn 7 w' (.slice A' n' c') r.1 ∧ Row enSe 6 w' (.slice B' m' d') r.2 ∧ Below w.heap.size w w' ∧ Fresh w (.slice A n c) (.slice A' n' c') ∧ Fresh w (.slice B m d) (.slice B' m' d') := by
  have D : Below w.heap.size w (((w.alloc (bxT A n c B m d)).alloc (bxEv k u o i a p q t)).alloc (bxT none 0 0 none 0 0)) := below_alloc0 (below_alloc0 (below_box _) _) _
  have S0 := halloc (halloc (heap_alloc_new w (bxT A n c B m d)) (bxEv k u o i a p q t)) (bxT none 0 0 none 0 0)
  have E0 := halloc (heap_alloc_new (w.alloc (bxT A n c B m d)) (bxEv k u o i a p q t)) (bxT none 0 0 none 0 0)
  have Z0 := heap_alloc_new ((w.alloc (bxT A n c B m d)).alloc (bxEv k u o i a p q t)) (bxT none 0 0 none 0 0)
  simp only [size_alloc] at E0 Z0
  replace hl := hl.below D
  replace hs := hs.below D
  obtain ⟨⟨s0, s1⟩, ⟨sf0, sf1⟩, sz⟩ := openT S0
  go_enter Tryz.func62, Tryz.ntmps62
  go_wp2_with fail
  with_reducible refine (refMayT_is n c A l m d B s _ hl hs hz hy (by omega) true HM).mono ?_
  rintro e w1 ⟨rfl, b1⟩
  replace hl := hl.below b1
  replace hs := hs.below b1
  replace S0 := hcall S0 b1
  replace E0 := hcall E0 b1
  replace Z0 := hcall Z0 b1
  replace D := below_call D b1
  clear b1 s0 s1 sf0 sf1 sz
  have hz6 : w.heap.size + 1 + 1 < w1.heap.size := (Array.getElem?_eq_some_iff.1 Z0).1
  have g1' : ¬ k < 1 := of_decide_eq_false H1.out
  have g8' : ¬ 8 < k := of_decide_eq_false H8.out
  have g6' : k ≤ 6 := of_decide_eq_true H6.out
  obtain ⟨⟨s0, s1⟩, ⟨sf0, sf1⟩, sz⟩ := openT S0
  obtain ⟨e0, e1, e2, e3, e4, e5, e6, e7, ez⟩ := cellsEv k u o i a p q t E0
  have X0 : (w1.alloc (bxT A n c B m d)).heap[w1.heap.size]? = some (bxT A n c B m d) := heap_alloc_new _ _
  replace hl := hl.below (below_box (bxT A n c B m d))
  replace hs := hs.below (below_box (bxT A n c B m d))
  replace S0 := halloc S0 (bxT A n c B m d)
  replace E0 := halloc E0 (bxT A n c B m d)
  replace Z0 := halloc Z0 (bxT A n c B m d)
  replace D := below_alloc0 D (bxT A n c B m d)
  obtain ⟨⟨s0x, s1x⟩, ⟨sf0x, sf1x⟩, szx⟩ := openT S0
  obtain ⟨e0x, e1x, e2x, e3x, e4x, e5x, e6x, e7x, ezx⟩ := cellsEv k u o i a p q t E0
  have hfz := D.size
  go_wp2_with fail
  with_reducible refine (refDo8F_is n c A l _ hl k u o r9l er hz hn hu ho HR).mono ?_
  rintro e w2 ⟨v9, rfl, r9, b2, hf9⟩
  replace hl := hl.below b2
  replace hs := hs.below b2
  replace S0 := hcall S0 b2
  replace E0 := hcall E0 b2
  replace Z0 := hcall Z0 b2
  replace X0 := hcall X0 b2
  replace D := below_call D b2
  clear b2 s0 s1 sf0 sf1 sz e0 e1 e2 e3 e4 e5 e6 e7 ez s0x s1x sf0x sf1x szx e0x e1x e2x e3x e4x e5x e6x e7x ezx
  obtain ⟨n9, hn9⟩ : ∃ n9, r9l.length = n9 := ⟨_, rfl⟩
  obtain ⟨A9, c9, rfl⟩ := Row.form8 r9 n9 hn9
  clear hn9
  have he2 := hne.out
  obtain ⟨⟨x0, x1⟩, ⟨xf0, xf1⟩, xz⟩ := openT X0
  have X5 : (w2.setCell ⟨w1.heap.size, 0, none⟩ (.slice A9 n9 c9)).heap[w1.heap.size]? = some (bxT A9 n9 c9 B m d) := hset0 X0 A9 n9 c9
  have S5 : (w2.setCell ⟨w1.heap.size, 0, none⟩ (.slice A9 n9 c9)).heap[w.heap.size]? = some (bxT A n c B m d) := hset_neT (by omega) S0
  have Z5 : (w2.setCell ⟨w1.heap.size, 0, none⟩ (.slice A9 n9 c9)).heap[w.heap.size + 1 + 1]? = some (bxT none 0 0 none 0 0) := hset_neT (by omega) Z0
  have D5 := bset D w1.heap.size 0 (.slice A9 n9 c9) (by omega)
  have hl5 := Row.setT hl nsEn X0 0 (.slice A9 n9 c9)
  have hs5 := Row.setT hs nsSe X0 0 (.slice A9 n9 c9)
  have r5 := Row.setT r9 nsEn X0 0 (.slice A9 n9 c9)
  obtain ⟨⟨x50, x51⟩, ⟨xf50, xf51⟩, x5z⟩ := openT X5
  obtain ⟨⟨s50, s51⟩, ⟨sf50, sf51⟩, s5z⟩ := openT S5
  obtain ⟨⟨z50, z51⟩, ⟨zf50, zf51⟩, z5z⟩ := openT Z5
  have Z6 : ((w2.setCell ⟨w1.heap.size, 0, none⟩ (.slice A9 n9 c9)).setCell ⟨w.heap.size + 1 + 1, 0, none⟩ (.slice A n c)).heap[w.heap.size + 1 + 1]? = some (bxT A n c none 0 0) := hset0 Z5 A n c
  have Z7 : (((w2.setCell ⟨w1.heap.size, 0, none⟩ (.slice A9 n9 c9)).setCell ⟨w.heap.size + 1 + 1, 0, none⟩ (.slice A n c)).setCell ⟨w.heap.size + 1 + 1, 1, none⟩ (.slice B m d)).heap[w.heap.size + 1 + 1]? = some (bxT A n c B m d) := hset1 Z6 B m d
  have D7 := bset (bset D5 (w.heap.size + 1 + 1) 0 (.slice A n c) (by omega)) (w.heap.size + 1 + 1) 1 (.slice B m d) (by omega)
  have hl7 := Row.setT (Row.setT hl5 nsEn Z5 0 (.slice A n c)) nsEn Z6 1 (.slice B m d)
  have hs7 := Row.setT (Row.setT hs5 nsSe Z5 0 (.slice A n c)) nsSe Z6 1 (.slice B m d)
  obtain ⟨⟨y0, y1⟩, ⟨yf0, yf1⟩, yz⟩ := openT Z6
  go_wp2
  (try simp only [Exit.inBlock, Exit.then])
  (refine bodyPost_ct rfl (w.heap.size + 1 + 1) 25 #[.slice A n c, .slice B m d] (0, 0) _ rfl ?_ Tryz.underlying25 rfl info_st rfl ?_)
  · exact Z7
  · rw [h.out.1]
    exact ⟨A, n, c, B, m, d, rfl, hl7, hs7, D7, .self, .self⟩
set_option maxHeartbeats 16000000 in
set_option maxRecDepth 100000 in
theorem rapply_ros_ok (k : Int) (u o : ByteArray) (i a p q : Int) (t : ByteArray) (r9l : List En) (r : Sta) (HM : Hid (mayT (l, s) = true)) (H1 : Hid (decide (k < 1) = false)) (H8 : Hid (decide (8 < k) = false)) (H6 : Hid (decide (k ≤ 6) = true)) (hu : u.size ≤ 140737488351232) (ho : o.size ≤ 140737488351232) (HR : Hid (doRo l k u o = (r9l, 0))) (h : Hid (r = (r9l, s) ∧ (0 : Int) = 0)) :
    Calls Tryz.prog 62 #[agT A n c B m d, .agg #[.int .i64 k, .string u, .string o, .int .i64 i, .int .i64 a, .int .i64 p, .int .i64 q, .string t]] w fun x w' => ∃ A' n' c' B' m' d', x = .returned (.tuple #[agT A' n' c' B' m' d', .int .i64 0]) ∧ Row enEn 7 w' (.slice A' n' c') r.1 ∧ Row enSe 6 w' (.slice B' m' d') r.2 ∧ Below w.heap.size w w' ∧ Fresh w (.slice A n c) (.slice A' n' c') ∧ Fresh w (.slice B m d) (.slice B' m' d') := by
  have D : Below w.heap.size w (((w.alloc (bxT A n c B m d)).alloc (bxEv k u o i a p q t)).alloc (bxT none 0 0 none 0 0)) := below_alloc0 (below_alloc0 (below_box _) _) _
  have S0 := halloc (halloc (heap_alloc_new w (bxT A n c B m d)) (bxEv k u o i a p q t)) (bxT none 0 0 none 0 0)
  have E0 := halloc (heap_alloc_new (w.alloc (bxT A n c B m d)) (bxEv k u o i a p q t)) (bxT none 0 0 none 0 0)
  have Z0 := heap_alloc_new ((w.alloc (bxT A n c B m d)).alloc (bxEv k u o i a p q t)) (bxT none 0 0 none 0 0)
  simp only [size_alloc] at E0 Z0
  replace hl := hl.below D
  replace hs := hs.below D
  obtain ⟨⟨s0, s1⟩, ⟨sf0, sf1⟩, sz⟩ := openT S0
  go_enter Tryz.func62, Tryz.ntmps62
  go_wp2_with fail
  with_reducible refine (refMayT_is n c A l m d B s _ hl hs hz hy (by omega) true HM).mono ?_
  rintro e w1 ⟨rfl, b1⟩
  replace hl := hl.below b1
  replace hs := hs.below b1
  replace S0 := hcall S0 b1
  replace E0 := hcall E0 b1
  replace Z0 := hcall Z0 b1
  replace D := below_call D b1
  clear b1 s0 s1 sf0 sf1 sz
  have hz6 : w.heap.size + 1 + 1 < w1.heap.size := (Array.getElem?_eq_some_iff.1 Z0).1
  have g1' : ¬ k < 1 := of_decide_eq_false H1.out
  have g8' : ¬ 8 < k := of_decide_eq_false H8.out
  have g6' : k ≤ 6 := of_decide_eq_true H6.out
  obtain ⟨⟨s0, s1⟩, ⟨sf0, sf1⟩, sz⟩ := openT S0
  obtain ⟨e0, e1, e2, e3, e4, e5, e6, e7, ez⟩ := cellsEv k u o i a p q t E0
  have X0 : (w1.alloc (bxT A n c B m d)).heap[w1.heap.size]? = some (bxT A n c B m d) := heap_alloc_new _ _
  replace hl := hl.below (below_box (bxT A n c B m d))
  replace hs := hs.below (below_box (bxT A n c B m d))
  replace S0 := halloc S0 (bxT A n c B m d)
  replace E0 := halloc E0 (bxT A n c B m d)
  replace Z0 := halloc Z0 (bxT A n c B m d)
  replace D := below_alloc0 D (bxT A n c B m d)
  obtain ⟨⟨s0x, s1x⟩, ⟨sf0x, sf1x⟩, szx⟩ := openT S0
  obtain ⟨e0x, e1x, e2x, e3x, e4x, e5x, e6x, e7x, ezx⟩ := cellsEv k u o i a p q t E0
  have hfz := D.size
  go_wp2_with fail
  with_reducible refine (refDo8F_is n c A l _ hl k u o r9l 0 hz hn hu ho HR).mono ?_
  rintro e w2 ⟨v9, rfl, r9, b2, hf9⟩
  replace hl := hl.below b2
  replace hs := hs.below b2
  replace S0 := hcall S0 b2
  replace E0 := hcall E0 b2
  replace Z0 := hcall Z0 b2
  replace X0 := hcall X0 b2
  replace D := below_call D b2
  clear b2 s0 s1 sf0 sf1 sz e0 e1 e2 e3 e4 e5 e6 e7 ez s0x s1x sf0x sf1x szx e0x e1x e2x e3x e4x e5x e6x e7x ezx
  obtain ⟨n9, hn9⟩ : ∃ n9, r9l.length = n9 := ⟨_, rfl⟩
  obtain ⟨A9, c9, rfl⟩ := Row.form8 r9 n9 hn9
  clear hn9
  obtain ⟨⟨x0, x1⟩, ⟨xf0, xf1⟩, xz⟩ := openT X0
  have X5 : (w2.setCell ⟨w1.heap.size, 0, none⟩ (.slice A9 n9 c9)).heap[w1.heap.size]? = some (bxT A9 n9 c9 B m d) := hset0 X0 A9 n9 c9
  have S5 : (w2.setCell ⟨w1.heap.size, 0, none⟩ (.slice A9 n9 c9)).heap[w.heap.size]? = some (bxT A n c B m d) := hset_neT (by omega) S0
  have Z5 : (w2.setCell ⟨w1.heap.size, 0, none⟩ (.slice A9 n9 c9)).heap[w.heap.size + 1 + 1]? = some (bxT none 0 0 none 0 0) := hset_neT (by omega) Z0
  have D5 := bset D w1.heap.size 0 (.slice A9 n9 c9) (by omega)
  have hl5 := Row.setT hl nsEn X0 0 (.slice A9 n9 c9)
  have hs5 := Row.setT hs nsSe X0 0 (.slice A9 n9 c9)
  have r5 := Row.setT r9 nsEn X0 0 (.slice A9 n9 c9)
  obtain ⟨⟨x50, x51⟩, ⟨xf50, xf51⟩, x5z⟩ := openT X5
  obtain ⟨⟨s50, s51⟩, ⟨sf50, sf51⟩, s5z⟩ := openT S5
  obtain ⟨⟨z50, z51⟩, ⟨zf50, zf51⟩, z5z⟩ := openT Z5
  have Z6 : ((w2.setCell ⟨w1.heap.size, 0, none⟩ (.slice A9 n9 c9)).setCell ⟨w.heap.size + 1 + 1, 0, none⟩ (.slice A9 n9 c9)).heap[w.heap.size + 1 + 1]? = some (bxT A9 n9 c9 none 0 0) := hset0 Z5 A9 n9 c9
  have Z7 : (((w2.setCell ⟨w1.heap.size, 0, none⟩ (.slice A9 n9 c9)).setCell ⟨w.heap.size + 1 + 1, 0, none⟩ (.slice A9 n9 c9)).setCell ⟨w.heap.size + 1 + 1, 1, none⟩ (.slice B m d)).heap[w.heap.size + 1 + 1]? = some (bxT A9 n9 c9 B m d) := hset1 Z6 B m d
  have D7 := bset (bset D5 (w.heap.size + 1 + 1) 0 (.slice A9 n9 c9) (by omega)) (w.heap.size + 1 + 1) 1 (.slice B m d) (by omega)
  have hl7 := Row.setT (Row.setT r5 nsEn Z5 0 (.slice A9 n9 c9)) nsEn Z6 1 (.slice B m d)
  have hs7 := Row.setT (Row.setT hs5 nsSe Z5 0 (.slice A9 n9 c9)) nsSe Z6 1 (.slice B m d)
  obtain ⟨⟨y0, y1⟩, ⟨yf0, yf1⟩, yz⟩ := openT Z6
  go_wp2
  (try simp only [Exit.inBlock, Exit.then])
  (refine bodyPost_ct rfl (w.heap.size + 1 + 1) 25 #[.slice A9 n9 c9, .slice B m d] (0, 0) _ rfl ?_ Tryz.underlying25 rfl info_st rfl ?_)
  · exact Z7
  · rw [h.out.1]
    exact ⟨A9, n9, c9, B, m, d, rfl, hl7, hs7, D7, .up hf9 hfz, .self⟩
set_option maxHeartbeats 16000000 in
set_option maxRecDepth 100000 in
theorem rapply_put_er (k : Int) (u o : ByteArray) (i a p q : Int) (t : ByteArray) (er : Int) (r9l : List Se) (r : Sta) (HM : Hid (mayT (l, s) = true)) (H1 : Hid (decide (k < 1) = false)) (H8 : Hid (decide (8 < k) = false)) (H6 : Hid (decide (k ≤ 6) = false)) (H7 : Hid (decide (k = 7) = true)) (hu : u.size ≤ 140737488351232) (ht : t.size ≤ 140737488351232) (HR : Hid (putSe s ⟨u, i, a, p, q, t⟩ = (r9l, er))) (hne : Hid ((er == 0) = false)) (h : Hid (r = (l, s) ∧ er = er)) :
    Calls Tryz.prog 62 #[agT A n c B m d, .agg #[.int .i64 k, .string u, .string o, .int .i64 i, .int .i64 a, .int .i64 p, .int .i64 q, .string t]] w fun x w' => ∃ A' n' c' B' m' d', x = .returned (.tuple #[agT A' n' c' B' m' d', .int .i64 er]) ∧ Row enEn 7 w' (.slice A' n' c') r.1 ∧ Row enSe 6 w' (.slice B' m' d') r.2 ∧ Below w.heap.size w w' ∧ Fresh w (.slice A n c) (.slice A' n' c') ∧ Fresh w (.slice B m d) (.slice B' m' d') := by
  have D : Below w.heap.size w (((w.alloc (bxT A n c B m d)).alloc (bxEv k u o i a p q t)).alloc (bxT none 0 0 none 0 0)) := below_alloc0 (below_alloc0 (below_box _) _) _
  have S0 := halloc (halloc (heap_alloc_new w (bxT A n c B m d)) (bxEv k u o i a p q t)) (bxT none 0 0 none 0 0)
  have E0 := halloc (heap_alloc_new (w.alloc (bxT A n c B m d)) (bxEv k u o i a p q t)) (bxT none 0 0 none 0 0)
  have Z0 := heap_alloc_new ((w.alloc (bxT A n c B m d)).alloc (bxEv k u o i a p q t)) (bxT none 0 0 none 0 0)
  simp only [size_alloc] at E0 Z0
  replace hl := hl.below D
  replace hs := hs.below D
  obtain ⟨⟨s0, s1⟩, ⟨sf0, sf1⟩, sz⟩ := openT S0
  go_enter Tryz.func62, Tryz.ntmps62
  go_wp2_with fail
  with_reducible refine (refMayT_is n c A l m d B s _ hl hs hz hy (by omega) true HM).mono ?_
  rintro e w1 ⟨rfl, b1⟩
  replace hl := hl.below b1
  replace hs := hs.below b1
  replace S0 := hcall S0 b1
  replace E0 := hcall E0 b1
  replace Z0 := hcall Z0 b1
  replace D := below_call D b1
  clear b1 s0 s1 sf0 sf1 sz
  have hz6 : w.heap.size + 1 + 1 < w1.heap.size := (Array.getElem?_eq_some_iff.1 Z0).1
  have g1' : ¬ k < 1 := of_decide_eq_false H1.out
  have g8' : ¬ 8 < k := of_decide_eq_false H8.out
  have g6' : ¬ k ≤ 6 := of_decide_eq_false H6.out
  obtain ⟨⟨s0, s1⟩, ⟨sf0, sf1⟩, sz⟩ := openT S0
  obtain ⟨e0, e1, e2, e3, e4, e5, e6, e7, ez⟩ := cellsEv k u o i a p q t E0
  have X0 : (w1.alloc (bxT A n c B m d)).heap[w1.heap.size]? = some (bxT A n c B m d) := heap_alloc_new _ _
  replace hl := hl.below (below_box (bxT A n c B m d))
  replace hs := hs.below (below_box (bxT A n c B m d))
  replace S0 := halloc S0 (bxT A n c B m d)
  replace E0 := halloc E0 (bxT A n c B m d)
  replace Z0 := halloc Z0 (bxT A n c B m d)
  replace D := below_alloc0 D (bxT A n c B m d)
  obtain ⟨⟨s0x, s1x⟩, ⟨sf0x, sf1x⟩, szx⟩ := openT S0
  obtain ⟨e0x, e1x, e2x, e3x, e4x, e5x, e6x, e7x, ezx⟩ := cellsEv k u o i a p q t E0
  have k7 : (k == 7) = true := by have := H7.out; simpa using this
  have hfz := D.size
  go_wp2_with fail
  with_reducible refine (refPut9F_is m d B s _ hs u i a p q t r9l er hy hu ht HR).mono ?_
  rintro e w2 ⟨v9, rfl, r9, b2, hf9⟩
  replace hl := hl.below b2
  replace hs := hs.below b2
  replace S0 := hcall S0 b2
  replace E0 := hcall E0 b2
  replace Z0 := hcall Z0 b2
  replace X0 := hcall X0 b2
  replace D := below_call D b2
  clear b2 s0 s1 sf0 sf1 sz e0 e1 e2 e3 e4 e5 e6 e7 ez s0x s1x sf0x sf1x szx e0x e1x e2x e3x e4x e5x e6x e7x ezx
  obtain ⟨n9, hn9⟩ : ∃ n9, r9l.length = n9 := ⟨_, rfl⟩
  obtain ⟨A9, c9, rfl⟩ := Row.form8 r9 n9 hn9
  clear hn9
  have he2 := hne.out
  obtain ⟨⟨x0, x1⟩, ⟨xf0, xf1⟩, xz⟩ := openT X0
  have X5 : (w2.setCell ⟨w1.heap.size, 1, none⟩ (.slice A9 n9 c9)).heap[w1.heap.size]? = some (bxT A n c A9 n9 c9) := hset1 X0 A9 n9 c9
  have S5 : (w2.setCell ⟨w1.heap.size, 1, none⟩ (.slice A9 n9 c9)).heap[w.heap.size]? = some (bxT A n c B m d) := hset_neT (by omega) S0
  have Z5 : (w2.setCell ⟨w1.heap.size, 1, none⟩ (.slice A9 n9 c9)).heap[w.heap.size + 1 + 1]? = some (bxT none 0 0 none 0 0) := hset_neT (by omega) Z0
  have D5 := bset D w1.heap.size 1 (.slice A9 n9 c9) (by omega)
  have hl5 := Row.setT hl nsEn X0 1 (.slice A9 n9 c9)
  have hs5 := Row.setT hs nsSe X0 1 (.slice A9 n9 c9)
  have r5 := Row.setT r9 nsSe X0 1 (.slice A9 n9 c9)
  obtain ⟨⟨x50, x51⟩, ⟨xf50, xf51⟩, x5z⟩ := openT X5
  obtain ⟨⟨s50, s51⟩, ⟨sf50, sf51⟩, s5z⟩ := openT S5
  obtain ⟨⟨z50, z51⟩, ⟨zf50, zf51⟩, z5z⟩ := openT Z5
  have Z6 : ((w2.setCell ⟨w1.heap.size, 1, none⟩ (.slice A9 n9 c9)).setCell ⟨w.heap.size + 1 + 1, 0, none⟩ (.slice A n c)).heap[w.heap.size + 1 + 1]? = some (bxT A n c none 0 0) := hset0 Z5 A n c
  have Z7 : (((w2.setCell ⟨w1.heap.size, 1, none⟩ (.slice A9 n9 c9)).setCell ⟨w.heap.size + 1 + 1, 0, none⟩ (.slice A n c)).setCell ⟨w.heap.size + 1 + 1, 1, none⟩ (.slice B m d)).heap[w.heap.size + 1 + 1]? = some (bxT A n c B m d) := hset1 Z6 B m d
  have D7 := bset (bset D5 (w.heap.size + 1 + 1) 0 (.slice A n c) (by omega)) (w.heap.size + 1 + 1) 1 (.slice B m d) (by omega)
  have hl7 := Row.setT (Row.setT hl5 nsEn Z5 0 (.slice A n c)) nsEn Z6 1 (.slice B m d)
  have hs7 := Row.setT (Row.setT hs5 nsSe Z5 0 (.slice A n c)) nsSe Z6 1 (.slice B m d)
  obtain ⟨⟨y0, y1⟩, ⟨yf0, yf1⟩, yz⟩ := openT Z6
  go_wp2
  (try simp only [Exit.inBlock, Exit.then])
  (refine bodyPost_ct rfl (w.heap.size + 1 + 1) 25 #[.slice A n c, .slice B m d] (0, 0) _ rfl ?_ Tryz.underlying25 rfl info_st rfl ?_)
  · exact Z7
  · rw [h.out.1]
    exact ⟨A, n, c, B, m, d, rfl, hl7, hs7, D7, .self, .self⟩
set_option maxHeartbeats 16000000 in
set_option maxRecDepth 100000 in
theorem rapply_put_ok (k : Int) (u o : ByteArray) (i a p q : Int) (t : ByteArray) (r9l : List Se) (r : Sta) (HM : Hid (mayT (l, s) = true)) (H1 : Hid (decide (k < 1) = false)) (H8 : Hid (decide (8 < k) = false)) (H6 : Hid (decide (k ≤ 6) = false)) (H7 : Hid (decide (k = 7) = true)) (hu : u.size ≤ 140737488351232) (ht : t.size ≤ 140737488351232) (HR : Hid (putSe s ⟨u, i, a, p, q, t⟩ = (r9l, 0))) (h : Hid (r = (l, r9l) ∧ (0 : Int) = 0)) :
    Calls Tryz.prog 62 #[agT A n c B m d, .agg #[.int .i64 k, .string u, .string o, .int .i64 i, .int .i64 a, .int .i64 p, .int .i64 q, .string t]] w fun x w' => ∃ A' n' c' B' m' d', x = .returned (.tuple #[agT A' n' c' B' m' d', .int .i64 0]) ∧ Row enEn 7 w' (.slice A' n' c') r.1 ∧ Row enSe 6 w' (.slice B' m' d') r.2 ∧ Below w.heap.size w w' ∧ Fresh w (.slice A n c) (.slice A' n' c') ∧ Fresh w (.slice B m d) (.slice B' m' d') := by
  have D : Below w.heap.size w (((w.alloc (bxT A n c B m d)).alloc (bxEv k u o i a p q t)).alloc (bxT none 0 0 none 0 0)) := below_alloc0 (below_alloc0 (below_box _) _) _
  have S0 := halloc (halloc (heap_alloc_new w (bxT A n c B m d)) (bxEv k u o i a p q t)) (bxT none 0 0 none 0 0)
  have E0 := halloc (heap_alloc_new (w.alloc (bxT A n c B m d)) (bxEv k u o i a p q t)) (bxT none 0 0 none 0 0)
  have Z0 := heap_alloc_new ((w.alloc (bxT A n c B m d)).alloc (bxEv k u o i a p q t)) (bxT none 0 0 none 0 0)
  simp only [size_alloc] at E0 Z0
  replace hl := hl.below D
  replace hs := hs.below D
  obtain ⟨⟨s0, s1⟩, ⟨sf0, sf1⟩, sz⟩ := openT S0
  go_enter Tryz.func62, Tryz.ntmps62
  go_wp2_with fail
  with_reducible refine (refMayT_is n c A l m d B s _ hl hs hz hy (by omega) true HM).mono ?_
  rintro e w1 ⟨rfl, b1⟩
  replace hl := hl.below b1
  replace hs := hs.below b1
  replace S0 := hcall S0 b1
  replace E0 := hcall E0 b1
  replace Z0 := hcall Z0 b1
  replace D := below_call D b1
  clear b1 s0 s1 sf0 sf1 sz
  have hz6 : w.heap.size + 1 + 1 < w1.heap.size := (Array.getElem?_eq_some_iff.1 Z0).1
  have g1' : ¬ k < 1 := of_decide_eq_false H1.out
  have g8' : ¬ 8 < k := of_decide_eq_false H8.out
  have g6' : ¬ k ≤ 6 := of_decide_eq_false H6.out
  obtain ⟨⟨s0, s1⟩, ⟨sf0, sf1⟩, sz⟩ := openT S0
  obtain ⟨e0, e1, e2, e3, e4, e5, e6, e7, ez⟩ := cellsEv k u o i a p q t E0
  have X0 : (w1.alloc (bxT A n c B m d)).heap[w1.heap.size]? = some (bxT A n c B m d) := heap_alloc_new _ _
  replace hl := hl.below (below_box (bxT A n c B m d))
  replace hs := hs.below (below_box (bxT A n c B m d))
  replace S0 := halloc S0 (bxT A n c B m d)
  replace E0 := halloc E0 (bxT A n c B m d)
  replace Z0 := halloc Z0 (bxT A n c B m d)
  replace D := below_alloc0 D (bxT A n c B m d)
  obtain ⟨⟨s0x, s1x⟩, ⟨sf0x, sf1x⟩, szx⟩ := openT S0
  obtain ⟨e0x, e1x, e2x, e3x, e4x, e5x, e6x, e7x, ezx⟩ := cellsEv k u o i a p q t E0
  have k7 : (k == 7) = true := by have := H7.out; simpa using this
  have hfz := D.size
  go_wp2_with fail
  with_reducible refine (refPut9F_is m d B s _ hs u i a p q t r9l 0 hy hu ht HR).mono ?_
  rintro e w2 ⟨v9, rfl, r9, b2, hf9⟩
  replace hl := hl.below b2
  replace hs := hs.below b2
  replace S0 := hcall S0 b2
  replace E0 := hcall E0 b2
  replace Z0 := hcall Z0 b2
  replace X0 := hcall X0 b2
  replace D := below_call D b2
  clear b2 s0 s1 sf0 sf1 sz e0 e1 e2 e3 e4 e5 e6 e7 ez s0x s1x sf0x sf1x szx e0x e1x e2x e3x e4x e5x e6x e7x ezx
  obtain ⟨n9, hn9⟩ : ∃ n9, r9l.length = n9 := ⟨_, rfl⟩
  obtain ⟨A9, c9, rfl⟩ := Row.form8 r9 n9 hn9
  clear hn9
  obtain ⟨⟨x0, x1⟩, ⟨xf0, xf1⟩, xz⟩ := openT X0
  have X5 : (w2.setCell ⟨w1.heap.size, 1, none⟩ (.slice A9 n9 c9)).heap[w1.heap.size]? = some (bxT A n c A9 n9 c9) := hset1 X0 A9 n9 c9
  have S5 : (w2.setCell ⟨w1.heap.size, 1, none⟩ (.slice A9 n9 c9)).heap[w.heap.size]? = some (bxT A n c B m d) := hset_neT (by omega) S0
  have Z5 : (w2.setCell ⟨w1.heap.size, 1, none⟩ (.slice A9 n9 c9)).heap[w.heap.size + 1 + 1]? = some (bxT none 0 0 none 0 0) := hset_neT (by omega) Z0
  have D5 := bset D w1.heap.size 1 (.slice A9 n9 c9) (by omega)
  have hl5 := Row.setT hl nsEn X0 1 (.slice A9 n9 c9)
  have hs5 := Row.setT hs nsSe X0 1 (.slice A9 n9 c9)
  have r5 := Row.setT r9 nsSe X0 1 (.slice A9 n9 c9)
  obtain ⟨⟨x50, x51⟩, ⟨xf50, xf51⟩, x5z⟩ := openT X5
  obtain ⟨⟨s50, s51⟩, ⟨sf50, sf51⟩, s5z⟩ := openT S5
  obtain ⟨⟨z50, z51⟩, ⟨zf50, zf51⟩, z5z⟩ := openT Z5
  have Z6 : ((w2.setCell ⟨w1.heap.size, 1, none⟩ (.slice A9 n9 c9)).setCell ⟨w.heap.size + 1 + 1, 0, none⟩ (.slice A n c)).heap[w.heap.size + 1 + 1]? = some (bxT A n c none 0 0) := hset0 Z5 A n c
  have Z7 : (((w2.setCell ⟨w1.heap.size, 1, none⟩ (.slice A9 n9 c9)).setCell ⟨w.heap.size + 1 + 1, 0, none⟩ (.slice A n c)).setCell ⟨w.heap.size + 1 + 1, 1, none⟩ (.slice A9 n9 c9)).heap[w.heap.size + 1 + 1]? = some (bxT A n c A9 n9 c9) := hset1 Z6 A9 n9 c9
  have D7 := bset (bset D5 (w.heap.size + 1 + 1) 0 (.slice A n c) (by omega)) (w.heap.size + 1 + 1) 1 (.slice A9 n9 c9) (by omega)
  have hl7 := Row.setT (Row.setT hl5 nsEn Z5 0 (.slice A n c)) nsEn Z6 1 (.slice A9 n9 c9)
  have hs7 := Row.setT (Row.setT r5 nsSe Z5 0 (.slice A n c)) nsSe Z6 1 (.slice A9 n9 c9)
  obtain ⟨⟨y0, y1⟩, ⟨yf0, yf1⟩, yz⟩ := openT Z6
  go_wp2
  (try simp only [Exit.inBlock, Exit.then])
  (refine bodyPost_ct rfl (w.heap.size + 1 + 1) 25 #[.slice A n c, .slice A9 n9 c9] (0, 0) _ rfl ?_ Tryz.underlying25 rfl info_st rfl ?_)
  · exact Z7
  · rw [h.out.1]
    exact ⟨A, n, c, A9, n9, c9, rfl, hl7, hs7, D7, .self, .up hf9 hfz⟩
set_option maxHeartbeats 16000000 in
set_option maxRecDepth 100000 in
theorem rapply_drop_er (k : Int) (u o : ByteArray) (i a p q : Int) (t : ByteArray) (er : Int) (r9l : List Se) (r : Sta) (HM : Hid (mayT (l, s) = true)) (H1 : Hid (decide (k < 1) = false)) (H8 : Hid (decide (8 < k) = false)) (H6 : Hid (decide (k ≤ 6) = false)) (H7 : Hid (decide (k = 7) = false)) (HR : Hid (dropSe s (u, i) = (r9l, er))) (hne : Hid ((er == 0) = false)) (h : Hid (r = (l, s) ∧ er = er)) :
    Calls Tryz.prog 62 #[agT A n c B m d, .agg #[.int .i64 k, .string u, .string o, .int .i64 i, .int .i64 a, .int .i64 p, .int .i64 q, .string t]] w fun x w' => ∃ A' n' c' B' m' d', x = .returned (.tuple #[agT A' n' c' B' m' d', .int .i64 er]) ∧ Row enEn 7 w' (.slice A' n' c') r.1 ∧ Row enSe 6 w' (.slice B' m' d') r.2 ∧ Below w.heap.size w w' ∧ Fresh w (.slice A n c) (.slice A' n' c') ∧ Fresh w (.slice B m d) (.slice B' m' d') := by
  have D : Below w.heap.size w (((w.alloc (bxT A n c B m d)).alloc (bxEv k u o i a p q t)).alloc (bxT none 0 0 none 0 0)) := below_alloc0 (below_alloc0 (below_box _) _) _
  have S0 := halloc (halloc (heap_alloc_new w (bxT A n c B m d)) (bxEv k u o i a p q t)) (bxT none 0 0 none 0 0)
  have E0 := halloc (heap_alloc_new (w.alloc (bxT A n c B m d)) (bxEv k u o i a p q t)) (bxT none 0 0 none 0 0)
  have Z0 := heap_alloc_new ((w.alloc (bxT A n c B m d)).alloc (bxEv k u o i a p q t)) (bxT none 0 0 none 0 0)
  simp only [size_alloc] at E0 Z0
  replace hl := hl.below D
  replace hs := hs.below D
  obtain ⟨⟨s0, s1⟩, ⟨sf0, sf1⟩, sz⟩ := openT S0
  go_enter Tryz.func62, Tryz.ntmps62
  go_wp2_with fail
  with_reducible refine (refMayT_is n c A l m d B s _ hl hs hz hy (by omega) true HM).mono ?_
  rintro e w1 ⟨rfl, b1⟩
  replace hl := hl.below b1
  replace hs := hs.below b1
  replace S0 := hcall S0 b1
  replace E0 := hcall E0 b1
  replace Z0 := hcall Z0 b1
  replace D := below_call D b1
  clear b1 s0 s1 sf0 sf1 sz
  have hz6 : w.heap.size + 1 + 1 < w1.heap.size := (Array.getElem?_eq_some_iff.1 Z0).1
  have g1' : ¬ k < 1 := of_decide_eq_false H1.out
  have g8' : ¬ 8 < k := of_decide_eq_false H8.out
  have g6' : ¬ k ≤ 6 := of_decide_eq_false H6.out
  obtain ⟨⟨s0, s1⟩, ⟨sf0, sf1⟩, sz⟩ := openT S0
  obtain ⟨e0, e1, e2, e3, e4, e5, e6, e7, ez⟩ := cellsEv k u o i a p q t E0
  have X0 : (w1.alloc (bxT A n c B m d)).heap[w1.heap.size]? = some (bxT A n c B m d) := heap_alloc_new _ _
  replace hl := hl.below (below_box (bxT A n c B m d))
  replace hs := hs.below (below_box (bxT A n c B m d))
  replace S0 := halloc S0 (bxT A n c B m d)
  replace E0 := halloc E0 (bxT A n c B m d)
  replace Z0 := halloc Z0 (bxT A n c B m d)
  replace D := below_alloc0 D (bxT A n c B m d)
  obtain ⟨⟨s0x, s1x⟩, ⟨sf0x, sf1x⟩, szx⟩ := openT S0
  obtain ⟨e0x, e1x, e2x, e3x, e4x, e5x, e6x, e7x, ezx⟩ := cellsEv k u o i a p q t E0
  have k7 : (k == 7) = false := by have := H7.out; simpa using this
  have hfz := D.size
  go_wp2_with fail
  with_reducible refine (refDrop9F_is m d B s _ hs u i r9l er hy HR).mono ?_
  rintro e w2 ⟨v9, rfl, r9, b2, hf9⟩
  replace hl := hl.below b2
  replace hs := hs.below b2
  replace S0 := hcall S0 b2
  replace E0 := hcall E0 b2
  replace Z0 := hcall Z0 b2
  replace X0 := hcall X0 b2
  replace D := below_call D b2
  clear b2 s0 s1 sf0 sf1 sz e0 e1 e2 e3 e4 e5 e6 e7 ez s0x s1x sf0x sf1x szx e0x e1x e2x e3x e4x e5x e6x e7x ezx
  obtain ⟨n9, hn9⟩ : ∃ n9, r9l.length = n9 := ⟨_, rfl⟩
  obtain ⟨A9, c9, rfl⟩ := Row.form8 r9 n9 hn9
  clear hn9
  have he2 := hne.out
  obtain ⟨⟨x0, x1⟩, ⟨xf0, xf1⟩, xz⟩ := openT X0
  have X5 : (w2.setCell ⟨w1.heap.size, 1, none⟩ (.slice A9 n9 c9)).heap[w1.heap.size]? = some (bxT A n c A9 n9 c9) := hset1 X0 A9 n9 c9
  have S5 : (w2.setCell ⟨w1.heap.size, 1, none⟩ (.slice A9 n9 c9)).heap[w.heap.size]? = some (bxT A n c B m d) := hset_neT (by omega) S0
  have Z5 : (w2.setCell ⟨w1.heap.size, 1, none⟩ (.slice A9 n9 c9)).heap[w.heap.size + 1 + 1]? = some (bxT none 0 0 none 0 0) := hset_neT (by omega) Z0
  have D5 := bset D w1.heap.size 1 (.slice A9 n9 c9) (by omega)
  have hl5 := Row.setT hl nsEn X0 1 (.slice A9 n9 c9)
  have hs5 := Row.setT hs nsSe X0 1 (.slice A9 n9 c9)
  have r5 := Row.setT r9 nsSe X0 1 (.slice A9 n9 c9)
  obtain ⟨⟨x50, x51⟩, ⟨xf50, xf51⟩, x5z⟩ := openT X5
  obtain ⟨⟨s50, s51⟩, ⟨sf50, sf51⟩, s5z⟩ := openT S5
  obtain ⟨⟨z50, z51⟩, ⟨zf50, zf51⟩, z5z⟩ := openT Z5
  have Z6 : ((w2.setCell ⟨w1.heap.size, 1, none⟩ (.slice A9 n9 c9)).setCell ⟨w.heap.size + 1 + 1, 0, none⟩ (.slice A n c)).heap[w.heap.size + 1 + 1]? = some (bxT A n c none 0 0) := hset0 Z5 A n c
  have Z7 : (((w2.setCell ⟨w1.heap.size, 1, none⟩ (.slice A9 n9 c9)).setCell ⟨w.heap.size + 1 + 1, 0, none⟩ (.slice A n c)).setCell ⟨w.heap.size + 1 + 1, 1, none⟩ (.slice B m d)).heap[w.heap.size + 1 + 1]? = some (bxT A n c B m d) := hset1 Z6 B m d
  have D7 := bset (bset D5 (w.heap.size + 1 + 1) 0 (.slice A n c) (by omega)) (w.heap.size + 1 + 1) 1 (.slice B m d) (by omega)
  have hl7 := Row.setT (Row.setT hl5 nsEn Z5 0 (.slice A n c)) nsEn Z6 1 (.slice B m d)
  have hs7 := Row.setT (Row.setT hs5 nsSe Z5 0 (.slice A n c)) nsSe Z6 1 (.slice B m d)
  obtain ⟨⟨y0, y1⟩, ⟨yf0, yf1⟩, yz⟩ := openT Z6
  go_wp2
  (try simp only [Exit.inBlock, Exit.then])
  (refine bodyPost_ct rfl (w.heap.size + 1 + 1) 25 #[.slice A n c, .slice B m d] (0, 0) _ rfl ?_ Tryz.underlying25 rfl info_st rfl ?_)
  · exact Z7
  · rw [h.out.1]
    exact ⟨A, n, c, B, m, d, rfl, hl7, hs7, D7, .self, .self⟩
set_option maxHeartbeats 16000000 in
set_option maxRecDepth 100000 in
theorem rapply_drop_ok (k : Int) (u o : ByteArray) (i a p q : Int) (t : ByteArray) (r9l : List Se) (r : Sta) (HM : Hid (mayT (l, s) = true)) (H1 : Hid (decide (k < 1) = false)) (H8 : Hid (decide (8 < k) = false)) (H6 : Hid (decide (k ≤ 6) = false)) (H7 : Hid (decide (k = 7) = false)) (HR : Hid (dropSe s (u, i) = (r9l, 0))) (h : Hid (r = (l, r9l) ∧ (0 : Int) = 0)) :
    Calls Tryz.prog 62 #[agT A n c B m d, .agg #[.int .i64 k, .string u, .string o, .int .i64 i, .int .i64 a, .int .i64 p, .int .i64 q, .string t]] w fun x w' => ∃ A' n' c' B' m' d', x = .returned (.tuple #[agT A' n' c' B' m' d', .int .i64 0]) ∧ Row enEn 7 w' (.slice A' n' c') r.1 ∧ Row enSe 6 w' (.slice B' m' d') r.2 ∧ Below w.heap.size w w' ∧ Fresh w (.slice A n c) (.slice A' n' c') ∧ Fresh w (.slice B m d) (.slice B' m' d') := by
  have D : Below w.heap.size w (((w.alloc (bxT A n c B m d)).alloc (bxEv k u o i a p q t)).alloc (bxT none 0 0 none 0 0)) := below_alloc0 (below_alloc0 (below_box _) _) _
  have S0 := halloc (halloc (heap_alloc_new w (bxT A n c B m d)) (bxEv k u o i a p q t)) (bxT none 0 0 none 0 0)
  have E0 := halloc (heap_alloc_new (w.alloc (bxT A n c B m d)) (bxEv k u o i a p q t)) (bxT none 0 0 none 0 0)
  have Z0 := heap_alloc_new ((w.alloc (bxT A n c B m d)).alloc (bxEv k u o i a p q t)) (bxT none 0 0 none 0 0)
  simp only [size_alloc] at E0 Z0
  replace hl := hl.below D
  replace hs := hs.below D
  obtain ⟨⟨s0, s1⟩, ⟨sf0, sf1⟩, sz⟩ := openT S0
  go_enter Tryz.func62, Tryz.ntmps62
  go_wp2_with fail
  with_reducible refine (refMayT_is n c A l m d B s _ hl hs hz hy (by omega) true HM).mono ?_
  rintro e w1 ⟨rfl, b1⟩
  replace hl := hl.below b1
  replace hs := hs.below b1
  replace S0 := hcall S0 b1
  replace E0 := hcall E0 b1
  replace Z0 := hcall Z0 b1
  replace D := below_call D b1
  clear b1 s0 s1 sf0 sf1 sz
  have hz6 : w.heap.size + 1 + 1 < w1.heap.size := (Array.getElem?_eq_some_iff.1 Z0).1
  have g1' : ¬ k < 1 := of_decide_eq_false H1.out
  have g8' : ¬ 8 < k := of_decide_eq_false H8.out
  have g6' : ¬ k ≤ 6 := of_decide_eq_false H6.out
  obtain ⟨⟨s0, s1⟩, ⟨sf0, sf1⟩, sz⟩ := openT S0
  obtain ⟨e0, e1, e2, e3, e4, e5, e6, e7, ez⟩ := cellsEv k u o i a p q t E0
  have X0 : (w1.alloc (bxT A n c B m d)).heap[w1.heap.size]? = some (bxT A n c B m d) := heap_alloc_new _ _
  replace hl := hl.below (below_box (bxT A n c B m d))
  replace hs := hs.below (below_box (bxT A n c B m d))
  replace S0 := halloc S0 (bxT A n c B m d)
  replace E0 := halloc E0 (bxT A n c B m d)
  replace Z0 := halloc Z0 (bxT A n c B m d)
  replace D := below_alloc0 D (bxT A n c B m d)
  obtain ⟨⟨s0x, s1x⟩, ⟨sf0x, sf1x⟩, szx⟩ := openT S0
  obtain ⟨e0x, e1x, e2x, e3x, e4x, e5x, e6x, e7x, ezx⟩ := cellsEv k u o i a p q t E0
  have k7 : (k == 7) = false := by have := H7.out; simpa using this
  have hfz := D.size
  go_wp2_with fail
  with_reducible refine (refDrop9F_is m d B s _ hs u i r9l 0 hy HR).mono ?_
  rintro e w2 ⟨v9, rfl, r9, b2, hf9⟩
  replace hl := hl.below b2
  replace hs := hs.below b2
  replace S0 := hcall S0 b2
  replace E0 := hcall E0 b2
  replace Z0 := hcall Z0 b2
  replace X0 := hcall X0 b2
  replace D := below_call D b2
  clear b2 s0 s1 sf0 sf1 sz e0 e1 e2 e3 e4 e5 e6 e7 ez s0x s1x sf0x sf1x szx e0x e1x e2x e3x e4x e5x e6x e7x ezx
  obtain ⟨n9, hn9⟩ : ∃ n9, r9l.length = n9 := ⟨_, rfl⟩
  obtain ⟨A9, c9, rfl⟩ := Row.form8 r9 n9 hn9
  clear hn9
  obtain ⟨⟨x0, x1⟩, ⟨xf0, xf1⟩, xz⟩ := openT X0
  have X5 : (w2.setCell ⟨w1.heap.size, 1, none⟩ (.slice A9 n9 c9)).heap[w1.heap.size]? = some (bxT A n c A9 n9 c9) := hset1 X0 A9 n9 c9
  have S5 : (w2.setCell ⟨w1.heap.size, 1, none⟩ (.slice A9 n9 c9)).heap[w.heap.size]? = some (bxT A n c B m d) := hset_neT (by omega) S0
  have Z5 : (w2.setCell ⟨w1.heap.size, 1, none⟩ (.slice A9 n9 c9)).heap[w.heap.size + 1 + 1]? = some (bxT none 0 0 none 0 0) := hset_neT (by omega) Z0
  have D5 := bset D w1.heap.size 1 (.slice A9 n9 c9) (by omega)
  have hl5 := Row.setT hl nsEn X0 1 (.slice A9 n9 c9)
  have hs5 := Row.setT hs nsSe X0 1 (.slice A9 n9 c9)
  have r5 := Row.setT r9 nsSe X0 1 (.slice A9 n9 c9)
  obtain ⟨⟨x50, x51⟩, ⟨xf50, xf51⟩, x5z⟩ := openT X5
  obtain ⟨⟨s50, s51⟩, ⟨sf50, sf51⟩, s5z⟩ := openT S5
  obtain ⟨⟨z50, z51⟩, ⟨zf50, zf51⟩, z5z⟩ := openT Z5
  have Z6 : ((w2.setCell ⟨w1.heap.size, 1, none⟩ (.slice A9 n9 c9)).setCell ⟨w.heap.size + 1 + 1, 0, none⟩ (.slice A n c)).heap[w.heap.size + 1 + 1]? = some (bxT A n c none 0 0) := hset0 Z5 A n c
  have Z7 : (((w2.setCell ⟨w1.heap.size, 1, none⟩ (.slice A9 n9 c9)).setCell ⟨w.heap.size + 1 + 1, 0, none⟩ (.slice A n c)).setCell ⟨w.heap.size + 1 + 1, 1, none⟩ (.slice A9 n9 c9)).heap[w.heap.size + 1 + 1]? = some (bxT A n c A9 n9 c9) := hset1 Z6 A9 n9 c9
  have D7 := bset (bset D5 (w.heap.size + 1 + 1) 0 (.slice A n c) (by omega)) (w.heap.size + 1 + 1) 1 (.slice A9 n9 c9) (by omega)
  have hl7 := Row.setT (Row.setT hl5 nsEn Z5 0 (.slice A n c)) nsEn Z6 1 (.slice A9 n9 c9)
  have hs7 := Row.setT (Row.setT r5 nsSe Z5 0 (.slice A n c)) nsSe Z6 1 (.slice A9 n9 c9)
  obtain ⟨⟨y0, y1⟩, ⟨yf0, yf1⟩, yz⟩ := openT Z6
  go_wp2
  (try simp only [Exit.inBlock, Exit.then])
  (refine bodyPost_ct rfl (w.heap.size + 1 + 1) 25 #[.slice A n c, .slice A9 n9 c9] (0, 0) _ rfl ?_ Tryz.underlying25 rfl info_st rfl ?_)
  · exact Z7
  · rw [h.out.1]
    exact ⟨A, n, c, A9, n9, c9, rfl, hl7, hs7, D7, .self, .up hf9 hfz⟩
theorem refApplyT_is (k : Int) (u o : ByteArray) (i a p q : Int) (t : ByteArray) (hu : u.size ≤ 140737488351232) (ho : o.size ≤ 140737488351232) (ht : t.size ≤ 140737488351232) (er : Int) (r : Sta) (h : Hid (applyT (l, s) ⟨k, u, o, i, (a, p, q, t)⟩ = (r, er))) :
    Calls Tryz.prog 62 #[agT A n c B m d, .agg #[.int .i64 k, .string u, .string o, .int .i64 i, .int .i64 a, .int .i64 p, .int .i64 q, .string t]] w fun x w' => ∃ A' n' c' B' m' d', x = .returned (.tuple #[agT A' n' c' B' m' d', .int .i64 er]) ∧ Row enEn 7 w' (.slice A' n' c') r.1 ∧ Row enSe 6 w' (.slice B' m' d') r.2 ∧ Below w.heap.size w w' ∧ Fresh w (.slice A n c) (.slice A' n' c') ∧ Fresh w (.slice B m d) (.slice B' m' d') := by
  have h0 := h.out
  unfold applyT at h0
  simp only at h0
  cases hb : mayT (l, s) with
  | false =>
    rw [if_pos hb] at h0
    injection h0 with h1 h2
    exact rapply_no n c A l m d B s w hl hs hz hy hn k u o i a p q t er r hb ⟨h1.symm, h2.symm⟩
  | true =>
    rw [if_neg (by rw [hb]; decide)] at h0
    by_cases g1 : k < 1
    · rw [if_neg (by omega), if_neg (by omega), if_neg (by omega)] at h0
      injection h0 with h1 h2
      exact rapply_lo n c A l m d B s w hl hs hz hy hn k u o i a p q t er r hb (decide_eq_true g1) ⟨h1.symm, h2.symm⟩
    by_cases g8 : 8 < k
    · rw [if_neg (by omega), if_neg (by omega), if_neg (by omega)] at h0
      injection h0 with h1 h2
      exact rapply_hi n c A l m d B s w hl hs hz hy hn k u o i a p q t er r hb (decide_eq_false g1) (decide_eq_true g8) ⟨h1.symm, h2.symm⟩
    by_cases h16 : k ≤ 6
    · rw [if_pos (by omega)] at h0
      obtain ⟨r9, e9, h9⟩ : ∃ r e, doRo l k u o = (r, e) := ⟨_, _, rfl⟩
      rw [h9] at h0
      simp only at h0
      injection h0 with h1 h2
      by_cases he : e9 = 0
      · subst he
        subst h2
        exact rapply_ros_ok n c A l m d B s w hl hs hz hy hn k u o i a p q t r9 r hb (decide_eq_false g1) (decide_eq_false g8) (decide_eq_true h16) hu ho h9 ⟨h1.symm, rfl⟩
      · have h3 := doRo_err h9 he
        subst h3
        subst h2
        exact rapply_ros_er n c A r9 m d B s w hl hs hz hy hn k u o i a p q t e9 r9 r hb (decide_eq_false g1) (decide_eq_false g8) (decide_eq_true h16) hu ho h9 (by show _ = _; simpa using he) ⟨h1.symm, rfl⟩
    · rw [if_neg (by omega)] at h0
      by_cases h7 : k = 7
      · rw [if_pos h7] at h0
        obtain ⟨r9, e9, h9⟩ : ∃ r e, putSe s ⟨u, i, (a, p, q, t)⟩ = (r, e) := ⟨_, _, rfl⟩
        rw [h9] at h0
        simp only at h0
        injection h0 with h1 h2
        by_cases he : e9 = 0
        · subst he
          subst h2
          exact rapply_put_ok n c A l m d B s w hl hs hz hy hn k u o i a p q t r9 r hb (decide_eq_false g1) (decide_eq_false g8) (decide_eq_false h16) (decide_eq_true h7) hu ht h9 ⟨h1.symm, rfl⟩
        · have h3 := putSe_err h9 he
          subst h3
          subst h2
          exact rapply_put_er n c A l m d B r9 w hl hs hz hy hn k u o i a p q t e9 r9 r hb (decide_eq_false g1) (decide_eq_false g8) (decide_eq_false h16) (decide_eq_true h7) hu ht h9 (by show _ = _; simpa using he) ⟨h1.symm, rfl⟩
      · rw [if_neg h7, if_pos (by omega : k = 8)] at h0
        obtain ⟨r9, e9, h9⟩ : ∃ r e, dropSe s (u, i) = (r, e) := ⟨_, _, rfl⟩
        rw [h9] at h0
        simp only at h0
        injection h0 with h1 h2
        by_cases he : e9 = 0
        · subst he
          subst h2
          exact rapply_drop_ok n c A l m d B s w hl hs hz hy hn k u o i a p q t r9 r hb (decide_eq_false g1) (decide_eq_false g8) (decide_eq_false h16) (decide_eq_false h7) h9 ⟨h1.symm, rfl⟩
        · have h3 := dropSe_err h9 he
          subst h3
          subst h2
          exact rapply_drop_er n c A l m d B r9 w hl hs hz hy hn k u o i a p q t e9 r9 r hb (decide_eq_false g1) (decide_eq_false g8) (decide_eq_false h16) (decide_eq_false h7) h9 (by show _ = _; simpa using he) ⟨h1.symm, rfl⟩
end
end Go.Proofs.YtbpfcjdjhponaaaGreat
namespace Go.Proofs.YtbpfcjdjhponaaaGreat
open Go.RowKit
open Sp
theorem nsEv : ∀ (y : Evt) (u : Value), u ∈ enEv y → ∀ A n c, u ≠ .slice A n c := by
  intro y u hu A n c e
  subst e
  simp [enEv] at hu
theorem Own.setAt {α : Type} {enc : α → List Value} {k : Nat} {e : TypeId} {w : World} {base g : Nat} {v : Value} {xs : List α} (h : Own enc k e w base v xs) (hg : v.ownBlock = some g → False) (i : Nat) (x : Value) : Own enc k e (w.setCell ⟨g, i, none⟩ x) base v xs := by
  obtain ⟨h1, h2⟩ := h
  refine ⟨h1, h2.imp id ?_⟩
  rintro ⟨b, cap, cur, e1, hb, hh, h3, h4, h5, h6⟩
  exact ⟨b, cap, cur, e1, hb, hset_neT (fun e => hg (by rw [e1, ← e]; rfl)) hh, h3, h4, h5, h6⟩
noncomputable def opsroa : Array Oper := Held.inBody 5 Tryz.f61.body
set_option maxRecDepth 100000 in
theorem sizroa : opsroa.size = 12 := by kernel_rfl
set_option maxRecDepth 100000 in
theorem nosroa : Region.noSelect opsroa = true := by kernel_rfl
def ordroa0 : List Nat := [0, 1, 2, 3, 4, 5, 6, 7, 8, 9, 10, 11]
set_option maxRecDepth 100000 in
theorem okkroa_0 : Held.okAt opsroa ordroa0 0 = true := by kernel_rfl
set_option maxRecDepth 100000 in
theorem okkroa_1 : Held.okAt opsroa ordroa0 1 = true := by kernel_rfl
set_option maxRecDepth 100000 in
theorem okkroa_2 : Held.okAt opsroa ordroa0 2 = true := by kernel_rfl
set_option maxRecDepth 100000 in
theorem okkroa_3 : Held.okAt opsroa ordroa0 3 = true := by kernel_rfl
set_option maxRecDepth 100000 in
theorem okkroa_4 : Held.okAt opsroa ordroa0 4 = true := by kernel_rfl
def ordroa1 : List Nat := [0, 1, 2, 3, 4, 9, 5, 6, 7, 8, 10, 11]
set_option maxRecDepth 100000 in
theorem okkroa_5 : Held.okAt opsroa ordroa0 6 = true := by kernel_rfl
set_option maxRecDepth 100000 in
theorem okkroa_6 : Held.okAt opsroa ordroa0 7 = true := by kernel_rfl
set_option maxRecDepth 100000 in
theorem okkroa_7 : Held.okAt opsroa ordroa0 8 = true := by kernel_rfl
set_option maxRecDepth 100000 in
theorem okkroa_8 : Held.okAt opsroa ordroa0 11 = true := by kernel_rfl
set_option maxRecDepth 100000 in
theorem okkroa_9 : Held.okAt opsroa ordroa1 7 = true := by kernel_rfl
set_option maxRecDepth 100000 in
theorem okkroa_10 : Held.okAt opsroa ordroa1 8 = true := by kernel_rfl
set_option maxRecDepth 100000 in
theorem okkroa_11 : Held.okAt opsroa ordroa1 9 = true := by kernel_rfl
set_option maxHeartbeats 16000000 in
set_option maxRecDepth 100000 in
theorem refAllT_is (n c : Nat) (A : Option Addr) (l : List En) (m d : Nat) (B : Option Addr) (s : List Se) (w : World) (hl : Row enEn 7 w (.slice A n c) l) (hs : Row enSe 6 w (.slice B m d) s) (hz : SzRo l) (hy : SzSe s) (hn : n ≤ 600) (ne ce : Nat) (E : Option Addr) (es : List Evt) (he : Row enEv 8 w (.slice E ne ce) es) (hne : ne ≤ 100) (hv : SzEv es) (r : Sta) (xs : List Int) (h : Hid (allT (l, s) es = (r, xs))) :
    Calls Tryz.prog 61 #[agT A n c B m d, .slice E ne ce] w fun x w' => ∃ A' n' c' B' m' d' v, x = .returned (.tuple #[agT A' n' c' B' m' d', v]) ∧ Row enEn 7 w' (.slice A' n' c') r.1 ∧ Row enSe 6 w' (.slice B' m' d') r.2 ∧ Row enI 1 w' v xs ∧ Below w.heap.size w w' := by
  have EA := Lib.hid hl.len_eq
  have EE := Lib.hid he.len_eq
  have D := below_alloc0 (below_box (w := w) (bxT A n c B m d)) (bxT none 0 0 none 0 0)
  have S0 := halloc (heap_alloc_new w (bxT A n c B m d)) (bxT none 0 0 none 0 0)
  have Z0 := heap_alloc_new (w.alloc (bxT A n c B m d)) (bxT none 0 0 none 0 0)
  rw [size_alloc] at Z0
  have HW : Hid (((w.alloc (bxT A n c B m d)).alloc (bxT none 0 0 none 0 0)).heap.size = w.heap.size + 1 + 1) := by show _ = _; rw [size_alloc, size_alloc]
  have hl0 := hl.below D
  have hs0 := hs.below D
  clear hl hs
  go_enter Tryz.func61, Tryz.ntmps61
  go_wp2
  go_loopw [6, 7] (fun vo vc wr => ∃ (i : Nat) (A' : Option Addr) (n' c' : Nat) (B' : Option Addr) (m' d' : Nat) (st : Sta) (ys : List Int), vc = .int .i64 i ∧ i ≤ ne ∧ Hid (allT (l, s) (es.take i) = (st, ys)) ∧ wr.heap[w.heap.size]? = some (bxT A' n' c' B' m' d') ∧ wr.heap[w.heap.size + 1]? = some (bxT none 0 0 none 0 0) ∧ Row enEn 7 wr (.slice A' n' c') st.1 ∧ Row enSe 6 wr (.slice B' m' d') st.2 ∧ st.1.length ≤ l.length + 2 * i ∧ SzRo st.1 ∧ SzSe st.2 ∧ Own enI 1 35 wr (w.heap.size + 1 + 1) vo ys ∧ ys.length ≤ i ∧ Apart vo A' n' ∧ Apart vo B' m' ∧ Below w.heap.size w wr ∧ w.heap.size + 1 + 1 ≤ wr.heap.size) (fun _ vc _ => (ne - intOf vc).toNat)
  case atStart => exact ⟨0, A, n, c, B, m, d, (l, s), [], rfl, Nat.zero_le _, rfl, S0, Z0, hl0, hs0, by simp, hz, hy, Own.nil _ _ _ _ _, Nat.le_refl _, (fun _ _ _ h => by cases h), (fun _ _ _ h => by cases h), D, by rw [HW.out]; exact Nat.le_refl _⟩
  case round =>
    obtain ⟨i, A', n', c', B', m', d', st, ys, rfl, hi, HT, S1, Z1, hl1, hs1, hlen, hz1, hy1, hO, hys, hA1, hB1, hB, hW⟩ := hrel
    by_cases hlt : i < ne
    · have hil : i < es.length := by have := EE.out; omega
      obtain ⟨⟨k, u, o, j, a, p, q, t⟩, hev⟩ : ∃ e, es[i] = e := ⟨_, rfl⟩
      obtain ⟨ad, rfl, c0, c1, c2, c3, c4, c5, c6, c7⟩ := rowEv (he.below hB) i hil k u o j a p q t hev
      have hsz := hv _ (List.getElem_mem hil)
      rw [hev] at hsz
      simp only at hsz
      obtain ⟨r2, er, hap⟩ : ∃ r e, applyT st ⟨k, u, o, j, (a, p, q, t)⟩ = (r, e) := ⟨_, _, rfl⟩
      have hst := applyT_sz hap hz1 hy1 hsz.1 hsz.2.1 hsz.2.2
      have HT2 : Hid (allT (l, s) (es.take (i + 1)) = (r2, ys ++ [er])) := by
        show _ = _
        rw [List.take_succ_eq_append_getElem hil, hev, allT_snoc, HT.out, hap]
      have HAP : Hid (applyT (st.1, st.2) ⟨k, u, o, j, (a, p, q, t)⟩ = (r2, er)) := hap
      have hn' : n' ≤ 900 := by have h1 := hl1.len_eq; have h2 := EA.out; omega
      have heW := he.below hB
      have hW0 := hW
      have HEV := Lib.hid hev
      have x1 : (0 : Int) ≤ (i : Int) := by omega
      have x2 : (i : Int) < (ne : Int) := by omega
      have hlt0 : ∀ g, u6.ownBlock = some g → g < wr.heap.size := fun g hg => (World.ownsRow.lt hO g hg).2
      have hlt2 : ∀ g, u6.ownBlock = some g → g < wr.drew.heap.size := hlt0
      obtain ⟨s0, s1, sz⟩ := cellsT S1
      clear hev hap
      replace S1 : wr.drew.heap[_]? = _ := S1
      replace Z1 : wr.drew.heap[_]? = _ := Z1
      replace hl1 : Row _ _ wr.drew _ _ := hl1
      replace hs1 : Row _ _ wr.drew _ _ := hs1
      replace hO : Own _ _ _ wr.drew _ _ _ := hO
      replace heW : Row _ _ wr.drew _ _ := heW
      replace hB : Below _ _ wr.drew := hB.drew
      go_wp2_with fail
      refine Held.start (ops := opsroa) (S := fun w' => w'.cell? (ad.add (i * 8)) = some (.int .i64 k) ∧ w'.cell? ⟨(ad.add (i * 8)).block, (ad.add (i * 8)).off + 1, none⟩ = some (.string u) ∧ w'.cell? ⟨(ad.add (i * 8)).block, (ad.add (i * 8)).off + 2, none⟩ = some (.string o) ∧ w'.cell? ⟨(ad.add (i * 8)).block, (ad.add (i * 8)).off + 3, none⟩ = some (.int .i64 j) ∧ w'.cell? ⟨(ad.add (i * 8)).block, (ad.add (i * 8)).off + 4, none⟩ = some (.int .i64 a) ∧ w'.cell? ⟨(ad.add (i * 8)).block, (ad.add (i * 8)).off + 5, none⟩ = some (.int .i64 p) ∧ w'.cell? ⟨(ad.add (i * 8)).block, (ad.add (i * 8)).off + 6, none⟩ = some (.int .i64 q) ∧ w'.cell? ⟨(ad.add (i * 8)).block, (ad.add (i * 8)).off + 7, none⟩ = some (.string t) ∧ w'.cell? ⟨w.heap.size, 0, none⟩ = some (.slice A' n' c') ∧ w'.cell? ⟨w.heap.size, 1, none⟩ = some (.slice B' m' d')) ordroa0 12 (by kernel_rfl) sizroa (by kernel_rfl) ⟨c0, c1, c2, c3, c4, c5, c6, c7, s0, s1⟩ (fun hHeld => ?_)
      refine Held.take (k := 0) (i := 0) (v := ?vroa1) nosroa okkroa_0 sizroa (by kernel_rfl) rfl (fun _ _ _ h => h) (Or.inl ⟨by kernel_rfl, ?hyroa1⟩) (by assumption) ?restroa1
      case hyroa1 => (intro w hSw; (try dsimp only at hSw); go_simp; (try (first | with_reducible rfl | rw [if_neg (by omega)])))
      try simp only [Act.put, zA, zB, zC, zD, zE, zF]
      refine Held.take (k := 1) (i := 1) (v := ?vroa2) nosroa okkroa_1 sizroa (by kernel_rfl) rfl (fun _ _ _ h => h) (Or.inl ⟨by kernel_rfl, ?hyroa2⟩) (by assumption) ?restroa2
      case hyroa2 => (intro w hSw; (try dsimp only at hSw); go_simp; (try (first | with_reducible rfl | rw [if_neg (by omega)])))
      try simp only [Act.put, zA, zB, zC, zD, zE, zF]
      refine Held.take (k := 2) (i := 2) (v := ?vroa3) nosroa okkroa_2 sizroa (by kernel_rfl) rfl (fun _ _ _ h => h) (Or.inl ⟨by kernel_rfl, ?hyroa3⟩) (by assumption) ?restroa3
      case hyroa3 => (intro w hSw; (try dsimp only at hSw); go_simp; (try (first | with_reducible rfl | rw [if_neg (by omega)])))
      try simp only [Act.put, zA, zB, zC, zD, zE, zF]
      refine Held.take (k := 3) (i := 3) (v := ?vroa4) nosroa okkroa_3 sizroa (by kernel_rfl) rfl (fun _ _ _ h => h) (Or.inl ⟨by kernel_rfl, ?hyroa4⟩) (by assumption) ?restroa4
      case hyroa4 => (intro w hSw; (try dsimp only at hSw); go_simp; (try (first | with_reducible rfl | rw [if_neg (by omega)])))
      try simp only [Act.put, zA, zB, zC, zD, zE, zF]
      refine Held.take (k := 4) (i := 4) (v := ?vroa5) nosroa okkroa_4 sizroa (by kernel_rfl) rfl (fun _ _ _ h => h) (Or.inl ⟨by kernel_rfl, ?hyroa5⟩) (by assumption) ?restroa5
      case hyroa5 => (intro w hSw; (try dsimp only at hSw); go_simp; (try (first | with_reducible rfl | rw [if_neg (by omega)])))
      try simp only [Act.put, zA, zB, zC, zD, zE, zF]
      refine Held.two (o := ordroa0) (o1 := ordroa0) (o2 := ordroa1) (k := 5) (i := 5) (j := 9) (by kernel_rfl) (by kernel_rfl) (by kernel_rfl) rfl rfl (by kernel_rfl) (by kernel_rfl) (fun K hK => ?_) (fun K hK => ?_)
      · go_simp
        go_at_call 62
        with_reducible refine (refApplyT_is n' c' A' st.1 m' d' B' st.2 _ hl1 hs1 hz1 hy1 hn' k u o j a p q t hsz.1 hsz.2.1 hsz.2.2 er r2 HAP).mono ?_
        rintro x w4 ⟨A9, n9, c9, B9, m9, d9, rfl, hl4, hs4, b4, hf1, hf2⟩
        have hA4 : Apart u6 A9 n9 := apart_fresh hlt2 hA1 hf1
        have hB4 : Apart u6 B9 m9 := apart_fresh hlt2 hB1 hf2
        clear hf1 hf2 hA1 hB1 hl1 hs1
        clear c0 c1 c2 c3 c4 c5 c6 c7 s0 s1 sz
        replace S1 := hcall S1 b4
        replace Z1 := hcall Z1 b4
        replace hO := hO.below b4
        replace heW := heW.below b4
        replace hB := below_call hB b4
        have hsz4 : w.heap.size + 1 + 1 ≤ w4.heap.size := Nat.le_trans hW b4.size
        clear b4
        obtain ⟨c0, c1, c2, c3, c4, c5, c6, c7⟩ := rowsEv heW i hil k u o j a p q t HEV.out
        obtain ⟨s0, s1, sz⟩ := cellsT S1
        refine hK.out _ _ (by (try dsimp only); (exact ⟨c0, c1, c2, c3, c4, c5, c6, c7, s0, s1⟩)) (fun hHeld => ?_)
        clear hK K
        try simp only [Act.put, zA, zB, zC, zD, zE, zF]
        refine Held.take (k := 6) (i := 6) (v := ?vroa6) nosroa okkroa_5 sizroa (by kernel_rfl) rfl (fun _ _ _ h => h) (Or.inl ⟨by kernel_rfl, ?hyroa6⟩) (by assumption) ?restroa6
        case hyroa6 => (intro w hSw; (try dsimp only at hSw); go_simp; (try (first | with_reducible rfl | rw [if_neg (by omega)])))
        try simp only [Act.put, zA, zB, zC, zD, zE, zF]
        refine Held.take (k := 7) (i := 7) (v := ?vroa7) nosroa okkroa_6 sizroa (by kernel_rfl) rfl (fun _ _ _ h => h) (Or.inl ⟨by kernel_rfl, ?hyroa7⟩) (by assumption) ?restroa7
        case hyroa7 => (intro w hSw; (try dsimp only at hSw); go_simp; (try (first | with_reducible rfl | rw [if_neg (by omega)])))
        try simp only [Act.put, zA, zB, zC, zD, zE, zF]
        refine Held.take (k := 8) (i := 8) (v := ?vroa8) nosroa okkroa_7 sizroa (by kernel_rfl) rfl (fun _ _ _ h => h) (Or.inl ⟨by kernel_rfl, ?hyroa8⟩) (by assumption) ?restroa8
        case hyroa8 => (intro w hSw; (try dsimp only at hSw); go_simp; (try (first | with_reducible rfl | rw [if_neg (by omega)])))
        try simp only [Act.put, zA, zB, zC, zD, zE, zF]
        refine Held.only (k := 9) (i := 9) (show Region.ready .any opsroa (Held.lst 12 ordroa0 9) = [9] by kernel_rfl) (by kernel_rfl) rfl (by kernel_rfl) (fun K hK => ?_)
        go_simp
        have S4 := S1
        have Z4 := Z1
        have hO4 := hO
        have heW4 := heW
        have hB4' := hB
        clear c0 c1 c2 c3 c4 c5 c6 c7 s0 s1 sz
        replace S1 := halloc S1 (bxT none 0 0 none 0 0)
        replace heW := heW.below (below_box (bxT none 0 0 none 0 0))
        obtain ⟨c0, c1, c2, c3, c4, c5, c6, c7⟩ := rowsEv heW i hil k u o j a p q t HEV.out
        obtain ⟨s0, s1, sz⟩ := cellsT S1
        refine hK.out _ _ (by (try dsimp only); (exact ⟨c0, c1, c2, c3, c4, c5, c6, c7, s0, s1⟩)) (fun hHeld => ?_)
        clear hK K
        try simp only [Act.put, zA, zB, zC, zD, zE, zF]
        refine Held.only (k := 10) (i := 10) (show Region.ready .any opsroa (Held.lst 12 ordroa0 10) = [10] by kernel_rfl) (by kernel_rfl) rfl (by kernel_rfl) (fun K hK => ?_)
        go_simp
        clear c0 c1 c2 c3 c4 c5 c6 c7 s0 s1 sz
        have S5 := halloc S4 (bxT A9 n9 c9 B9 m9 d9)
        have Z5 := halloc Z4 (bxT A9 n9 c9 B9 m9 d9)
        have hl5 := hl4.below (below_box (bxT A9 n9 c9 B9 m9 d9))
        have hs5 := hs4.below (below_box (bxT A9 n9 c9 B9 m9 d9))
        have hO5 := hO4.alloc (bxT A9 n9 c9 B9 m9 d9)
        have heW5 := heW4.below (below_box (bxT A9 n9 c9 B9 m9 d9))
        have hB5 := below_alloc0 hB4' (bxT A9 n9 c9 B9 m9 d9)
        have Y5 := heap_alloc_new w4 (bxT A9 n9 c9 B9 m9 d9)
        have hsz5 : w.heap.size + 1 + 1 ≤ (w4.alloc (bxT A9 n9 c9 B9 m9 d9)).heap.size := by rw [size_alloc]; omega
        obtain ⟨c0, c1, c2, c3, c4, c5, c6, c7⟩ := rowsEv heW5 i hil k u o j a p q t HEV.out
        obtain ⟨s0, s1, sz⟩ := cellsT S5
        refine hK.out _ _ (by (try dsimp only); (exact ⟨c0, c1, c2, c3, c4, c5, c6, c7, s0, s1⟩)) (fun hHeld => ?_)
        clear hK K
        try simp only [Act.put, zA, zB, zC, zD, zE, zF]
        refine Held.take (k := 11) (i := 11) (v := ?vroa9) nosroa okkroa_8 sizroa (by kernel_rfl) rfl (fun _ _ _ h => h) (Or.inl ⟨by kernel_rfl, ?hyroa9⟩) (by assumption) ?restroa9
        case hyroa9 => (intro w hSw; (try dsimp only at hSw); go_simp; (try (first | with_reducible rfl | rw [if_neg (by omega)])))
        try simp only [Act.put, zA, zB, zC, zD, zE, zF]
        refine wpAnyH_done (by kernel_rfl) ?_ _
        have S5b := hset0 S5 A9 n9 c9
        have S6 := hset1 S5b B9 m9 d9
        have Z6 : (((w4.alloc (bxT A9 n9 c9 B9 m9 d9)).setCell ⟨w.heap.size, 0, none⟩ (.slice A9 n9 c9)).setCell ⟨w.heap.size, 1, none⟩ (.slice B9 m9 d9)).heap[w.heap.size + 1]? = _ := hset_neT (by omega) (hset_neT (by omega) Z5)
        have hl6 := Row.setT (Row.setT hl5 nsEn S5 0 (.slice A9 n9 c9)) nsEn S5b 1 (.slice B9 m9 d9)
        have hs6 := Row.setT (Row.setT hs5 nsSe S5 0 (.slice A9 n9 c9)) nsSe S5b 1 (.slice B9 m9 d9)
        have hD6 := bset (bset hB5 w.heap.size 0 (.slice A9 n9 c9) (Nat.le_refl _)) w.heap.size 1 (.slice B9 m9 d9) (Nat.le_refl _)
        have hO6 : Own enI 1 35 (((w4.alloc (bxT A9 n9 c9 B9 m9 d9)).setCell ⟨w.heap.size, 0, none⟩ (.slice A9 n9 c9)).setCell ⟨w.heap.size, 1, none⟩ (.slice B9 m9 d9)) (w.heap.size + 1 + 1) u6 ys := Own.setLow (Own.setLow hO5 (by omega) 0 _) (by omega) 1 _
        have hsz6 : w.heap.size + 1 + 1 ≤ (((w4.alloc (bxT A9 n9 c9 B9 m9 d9)).setCell ⟨w.heap.size, 0, none⟩ (.slice A9 n9 c9)).setCell ⟨w.heap.size, 1, none⟩ (.slice B9 m9 d9)).heap.size := by simpa [World.setCell] using hsz5
        have HZ6 : Hid ((((w4.alloc (bxT A9 n9 c9 B9 m9 d9)).setCell ⟨w.heap.size, 0, none⟩ (.slice A9 n9 c9)).setCell ⟨w.heap.size, 1, none⟩ (.slice B9 m9 d9)).heap.size = w4.heap.size + 1) := by show _ = _; simp [World.setCell, size_alloc]
        obtain ⟨⟨t0, t1⟩, ⟨tf0, tf1⟩, tz⟩ := openT S5
        obtain ⟨⟨t50, t51⟩, ⟨tf50, tf51⟩, t5z⟩ := openT S5b
        obtain ⟨⟨y0, y1⟩, ⟨yf0, yf1⟩, yz⟩ := openT Y5
        clear c0 c1 c2 c3 c4 c5 c6 c7 s0 s1 sz
        go_wp2_with (at_builtin; refine Own.append (w0 := (((w4.alloc (bxT A9 n9 c9 B9 m9 d9)).setCell ⟨w.heap.size, 0, none⟩ (.slice A9 n9 c9)).setCell ⟨w.heap.size, 1, none⟩ (.slice B9 m9 d9))) (w.heap.size + 1 + 1) rfl (.tmp 26) (.tmp 28) 107 35 (.int .i64 0) 1 8 rfl Tryz.underlying107 infoEr rfl (by decide) _ ys er [.int .i64 er] rfl (by rw [HZ6.out]; rfl) rfl rfl (enI_one _) hO6 (Below.refl _ _) hsz6 (by omega) (by omega) ?_; intro v7 w7 hO7 hB7 hG7 hR7)
        have hA7 : Apart v7 A9 n9 := by
          intro hp ad' e ho
          rcases hR7 with hR7 | ⟨b, hb, hbl⟩
          · exact hA4 hp ad' e (hR7.symm.trans ho)
          · rw [hb] at ho
            injection ho with ho
            have hbl2 : (((w4.alloc (bxT A9 n9 c9 B9 m9 d9)).setCell ⟨w.heap.size, 0, none⟩ (.slice A9 n9 c9)).setCell ⟨w.heap.size, 1, none⟩ (.slice B9 m9 d9)).heap.size ≤ b := hbl
            have := Row.lt hl6 (by decide) hp ad' e
            omega
        have hB7' : Apart v7 B9 m9 := by
          intro hp ad' e ho
          rcases hR7 with hR7 | ⟨b, hb, hbl⟩
          · exact hB4 hp ad' e (hR7.symm.trans ho)
          · rw [hb] at ho
            injection ho with ho
            have hbl2 : (((w4.alloc (bxT A9 n9 c9 B9 m9 d9)).setCell ⟨w.heap.size, 0, none⟩ (.slice A9 n9 c9)).setCell ⟨w.heap.size, 1, none⟩ (.slice B9 m9 d9)).heap.size ≤ b := hbl
            have := Row.lt hs6 (by decide) hp ad' e
            omega
        have hl7 := Row.grownP hl6 hG7 hA4
        have hs7 := Row.grownP hs6 hG7 hB4
        have S7 := (hB7.block w.heap.size (by omega)).trans S6
        have Z7 := (hB7.block (w.heap.size + 1) (by omega)).trans Z6
        exact ⟨⟨i + 1, A9, n9, c9, B9, m9, d9, r2, ys ++ [er], by go_num, by omega, HT2, S7, Z7, hl7, hs7, by have := hst.2.2; omega, hst.1, hst.2.1, hO7, by rw [List.length_append]; simp only [List.length_cons, List.length_nil]; omega, hA7, hB7', hD6.trans (hB7.mono (by omega)), Nat.le_trans hsz6 hB7.size⟩, by simp [intOf]; omega⟩
      · go_simp
        clear c0 c1 c2 c3 c4 c5 c6 c7 s0 s1 sz
        have Y1 : (wr.alloc (bxT none 0 0 none 0 0)).drew.heap[wr.heap.size]? = _ := heap_alloc_new wr (bxT none 0 0 none 0 0)
        replace S1 : (wr.alloc (bxT none 0 0 none 0 0)).drew.heap[_]? = _ := halloc S1 (bxT none 0 0 none 0 0)
        replace Z1 : (wr.alloc (bxT none 0 0 none 0 0)).drew.heap[_]? = _ := halloc Z1 (bxT none 0 0 none 0 0)
        replace hl1 : Row _ _ (wr.alloc (bxT none 0 0 none 0 0)).drew _ _ := hl1.below (below_box (bxT none 0 0 none 0 0))
        replace hs1 : Row _ _ (wr.alloc (bxT none 0 0 none 0 0)).drew _ _ := hs1.below (below_box (bxT none 0 0 none 0 0))
        replace hO : Own _ _ _ (wr.alloc (bxT none 0 0 none 0 0)).drew _ _ _ := hO.alloc (bxT none 0 0 none 0 0)
        replace heW : Row _ _ (wr.alloc (bxT none 0 0 none 0 0)).drew _ _ := heW.below (below_box (bxT none 0 0 none 0 0))
        replace hB : Below _ _ (wr.alloc (bxT none 0 0 none 0 0)).drew := below_alloc0 hB (bxT none 0 0 none 0 0)
        replace hlt2 : ∀ g, u6.ownBlock = some g → g < ((wr.alloc (bxT none 0 0 none 0 0)).drew).heap.size := fun g hg => (World.ownsRow.lt hO g hg).2
        replace hW : w.heap.size + 1 + 1 ≤ ((wr.alloc (bxT none 0 0 none 0 0)).drew).heap.size := Nat.le_trans hW (show wr.heap.size ≤ (wr.alloc (bxT none 0 0 none 0 0)).heap.size by rw [size_alloc]; exact Nat.le_succ _)
        have hg8 : wr.heap.size < ((wr.alloc (bxT none 0 0 none 0 0)).drew).heap.size := show wr.heap.size < (wr.alloc (bxT none 0 0 none 0 0)).heap.size by rw [size_alloc]; exact Nat.lt_succ_self _
        obtain ⟨c0, c1, c2, c3, c4, c5, c6, c7⟩ := rowsEv heW i hil k u o j a p q t HEV.out
        obtain ⟨s0, s1, sz⟩ := cellsT S1
        refine hK.out _ _ (by (try dsimp only); (exact ⟨c0, c1, c2, c3, c4, c5, c6, c7, s0, s1⟩)) (fun hHeld => ?_)
        clear hK K
        try simp only [Act.put, zA, zB, zC, zD, zE, zF]
        refine Held.only (k := 6) (i := 5) (show Region.ready .any opsroa (Held.lst 12 ordroa1 6) = [5] by kernel_rfl) (by kernel_rfl) rfl (by kernel_rfl) (fun K hK => ?_)
        go_simp
        go_at_call 62
        with_reducible refine (refApplyT_is n' c' A' st.1 m' d' B' st.2 _ hl1 hs1 hz1 hy1 hn' k u o j a p q t hsz.1 hsz.2.1 hsz.2.2 er r2 HAP).mono ?_
        rintro x w4 ⟨A9, n9, c9, B9, m9, d9, rfl, hl4, hs4, b4, hf1, hf2⟩
        have hA4 : Apart u6 A9 n9 := apart_fresh hlt2 hA1 hf1
        have hB4 : Apart u6 B9 m9 := apart_fresh hlt2 hB1 hf2
        clear hf1 hf2 hA1 hB1 hl1 hs1
        clear c0 c1 c2 c3 c4 c5 c6 c7 s0 s1 sz
        replace S1 := hcall S1 b4
        replace Z1 := hcall Z1 b4
        replace hO := hO.below b4
        replace heW := heW.below b4
        replace hB := below_call hB b4
        replace Y1 := hcall Y1 b4
        have hsz4 : w.heap.size + 1 + 1 ≤ w4.heap.size := Nat.le_trans hW b4.size
        clear b4
        obtain ⟨c0, c1, c2, c3, c4, c5, c6, c7⟩ := rowsEv heW i hil k u o j a p q t HEV.out
        obtain ⟨s0, s1, sz⟩ := cellsT S1
        refine hK.out _ _ (by (try dsimp only); (exact ⟨c0, c1, c2, c3, c4, c5, c6, c7, s0, s1⟩)) (fun hHeld => ?_)
        clear hK K
        try simp only [Act.put, zA, zB, zC, zD, zE, zF]
        refine Held.take (k := 7) (i := 6) (v := ?vroa10) nosroa okkroa_9 sizroa (by kernel_rfl) rfl (fun _ _ _ h => h) (Or.inl ⟨by kernel_rfl, ?hyroa10⟩) (by assumption) ?restroa10
        case hyroa10 => (intro w hSw; (try dsimp only at hSw); go_simp; (try (first | with_reducible rfl | rw [if_neg (by omega)])))
        try simp only [Act.put, zA, zB, zC, zD, zE, zF]
        refine Held.take (k := 8) (i := 7) (v := ?vroa11) nosroa okkroa_10 sizroa (by kernel_rfl) rfl (fun _ _ _ h => h) (Or.inl ⟨by kernel_rfl, ?hyroa11⟩) (by assumption) ?restroa11
        case hyroa11 => (intro w hSw; (try dsimp only at hSw); go_simp; (try (first | with_reducible rfl | rw [if_neg (by omega)])))
        try simp only [Act.put, zA, zB, zC, zD, zE, zF]
        refine Held.take (k := 9) (i := 8) (v := ?vroa12) nosroa okkroa_11 sizroa (by kernel_rfl) rfl (fun _ _ _ h => h) (Or.inl ⟨by kernel_rfl, ?hyroa12⟩) (by assumption) ?restroa12
        case hyroa12 => (intro w hSw; (try dsimp only at hSw); go_simp; (try (first | with_reducible rfl | rw [if_neg (by omega)])))
        try simp only [Act.put, zA, zB, zC, zD, zE, zF]
        refine Held.only (k := 10) (i := 10) (show Region.ready .any opsroa (Held.lst 12 ordroa1 10) = [10] by kernel_rfl) (by kernel_rfl) rfl (by kernel_rfl) (fun K hK => ?_)
        obtain ⟨⟨y0, y1⟩, ⟨yf0, yf1⟩, yz⟩ := openT Y1
        have Y4 := hset0 Y1 A9 n9 c9
        obtain ⟨⟨y40, y41⟩, ⟨y4f0, y4f1⟩, y4z⟩ := openT Y4
        have Y5 := hset1 Y4 B9 m9 d9
        go_simp
        clear c0 c1 c2 c3 c4 c5 c6 c7 s0 s1 sz y0 y1 yf0 yf1 yz y40 y41 y4f0 y4f1 y4z
        have S5 : ((w4.setCell ⟨wr.heap.size, 0, none⟩ (.slice A9 n9 c9)).setCell ⟨wr.heap.size, 1, none⟩ (.slice B9 m9 d9)).heap[w.heap.size]? = _ := hset_neT (by omega) (hset_neT (by omega) S1)
        have Z5 : ((w4.setCell ⟨wr.heap.size, 0, none⟩ (.slice A9 n9 c9)).setCell ⟨wr.heap.size, 1, none⟩ (.slice B9 m9 d9)).heap[w.heap.size + 1]? = _ := hset_neT (by omega) (hset_neT (by omega) Z1)
        have hl5 := Row.setT (Row.setT hl4 nsEn Y1 0 (.slice A9 n9 c9)) nsEn Y4 1 (.slice B9 m9 d9)
        have hs5 := Row.setT (Row.setT hs4 nsSe Y1 0 (.slice A9 n9 c9)) nsSe Y4 1 (.slice B9 m9 d9)
        have heW5 := Row.setT (Row.setT heW nsEv Y1 0 (.slice A9 n9 c9)) nsEv Y4 1 (.slice B9 m9 d9)
        have hO5 : Own enI 1 35 ((w4.setCell ⟨wr.heap.size, 0, none⟩ (.slice A9 n9 c9)).setCell ⟨wr.heap.size, 1, none⟩ (.slice B9 m9 d9)) (w.heap.size + 1 + 1) u6 ys := Own.setAt (Own.setAt hO (fun e => absurd (hlt0 _ e) (by omega)) 0 _) (fun e => absurd (hlt0 _ e) (by omega)) 1 _
        have hB5 : Below w.heap.size w ((w4.setCell ⟨wr.heap.size, 0, none⟩ (.slice A9 n9 c9)).setCell ⟨wr.heap.size, 1, none⟩ (.slice B9 m9 d9)) := bset (bset hB wr.heap.size 0 (.slice A9 n9 c9) (by omega)) wr.heap.size 1 (.slice B9 m9 d9) (by omega)
        have hsz5 : w.heap.size + 1 + 1 ≤ ((w4.setCell ⟨wr.heap.size, 0, none⟩ (.slice A9 n9 c9)).setCell ⟨wr.heap.size, 1, none⟩ (.slice B9 m9 d9)).heap.size := by simpa [World.setCell] using hsz4
        obtain ⟨c0, c1, c2, c3, c4, c5, c6, c7⟩ := rowsEv heW5 i hil k u o j a p q t HEV.out
        obtain ⟨s0, s1, sz⟩ := cellsT S5
        refine hK.out _ _ (by (try dsimp only); (exact ⟨c0, c1, c2, c3, c4, c5, c6, c7, s0, s1⟩)) (fun hHeld => ?_)
        clear hK K
        try simp only [Act.put, zA, zB, zC, zD, zE, zF]
        refine Held.take (k := 11) (i := 11) (v := ?vroa13) nosroa (show Held.okAt opsroa ordroa1 11 = true by kernel_rfl) sizroa (by kernel_rfl) rfl (fun _ _ _ h => h) (Or.inl ⟨by kernel_rfl, ?hyroa13⟩) (by assumption) ?restroa13
        case hyroa13 => (intro w hSw; (try dsimp only at hSw); go_simp; (try (first | with_reducible rfl | rw [if_neg (by omega)])))
        try simp only [Act.put, zA, zB, zC, zD, zE, zF]
        refine wpAnyH_done (by kernel_rfl) ?_ _
        have S5b := hset0 S5 A9 n9 c9
        have S6 := hset1 S5b B9 m9 d9
        have Z6 : ((((w4.setCell ⟨wr.heap.size, 0, none⟩ (.slice A9 n9 c9)).setCell ⟨wr.heap.size, 1, none⟩ (.slice B9 m9 d9)).setCell ⟨w.heap.size, 0, none⟩ (.slice A9 n9 c9)).setCell ⟨w.heap.size, 1, none⟩ (.slice B9 m9 d9)).heap[w.heap.size + 1]? = _ := hset_neT (by omega) (hset_neT (by omega) Z5)
        have hl6 := Row.setT (Row.setT hl5 nsEn S5 0 (.slice A9 n9 c9)) nsEn S5b 1 (.slice B9 m9 d9)
        have hs6 := Row.setT (Row.setT hs5 nsSe S5 0 (.slice A9 n9 c9)) nsSe S5b 1 (.slice B9 m9 d9)
        have hD6 := bset (bset hB5 w.heap.size 0 (.slice A9 n9 c9) (Nat.le_refl _)) w.heap.size 1 (.slice B9 m9 d9) (Nat.le_refl _)
        have hO6 : Own enI 1 35 ((((w4.setCell ⟨wr.heap.size, 0, none⟩ (.slice A9 n9 c9)).setCell ⟨wr.heap.size, 1, none⟩ (.slice B9 m9 d9)).setCell ⟨w.heap.size, 0, none⟩ (.slice A9 n9 c9)).setCell ⟨w.heap.size, 1, none⟩ (.slice B9 m9 d9)) (w.heap.size + 1 + 1) u6 ys := Own.setLow (Own.setLow hO5 (by omega) 0 _) (by omega) 1 _
        have hsz6 : w.heap.size + 1 + 1 ≤ ((((w4.setCell ⟨wr.heap.size, 0, none⟩ (.slice A9 n9 c9)).setCell ⟨wr.heap.size, 1, none⟩ (.slice B9 m9 d9)).setCell ⟨w.heap.size, 0, none⟩ (.slice A9 n9 c9)).setCell ⟨w.heap.size, 1, none⟩ (.slice B9 m9 d9)).heap.size := by simpa [World.setCell] using hsz5
        have HZ6 : Hid (((((w4.setCell ⟨wr.heap.size, 0, none⟩ (.slice A9 n9 c9)).setCell ⟨wr.heap.size, 1, none⟩ (.slice B9 m9 d9)).setCell ⟨w.heap.size, 0, none⟩ (.slice A9 n9 c9)).setCell ⟨w.heap.size, 1, none⟩ (.slice B9 m9 d9)).heap.size = w4.heap.size) := by show _ = _; simp [World.setCell]
        obtain ⟨⟨t0, t1⟩, ⟨tf0, tf1⟩, tz⟩ := openT S5
        obtain ⟨⟨t50, t51⟩, ⟨tf50, tf51⟩, t5z⟩ := openT S5b
        obtain ⟨⟨y0, y1⟩, ⟨yf0, yf1⟩, yz⟩ := openT Y5
        clear c0 c1 c2 c3 c4 c5 c6 c7 s0 s1 sz
        go_wp2_with (at_builtin; refine Own.append (w0 := ((((w4.setCell ⟨wr.heap.size, 0, none⟩ (.slice A9 n9 c9)).setCell ⟨wr.heap.size, 1, none⟩ (.slice B9 m9 d9)).setCell ⟨w.heap.size, 0, none⟩ (.slice A9 n9 c9)).setCell ⟨w.heap.size, 1, none⟩ (.slice B9 m9 d9))) (w.heap.size + 1 + 1) rfl (.tmp 26) (.tmp 28) 107 35 (.int .i64 0) 1 8 rfl Tryz.underlying107 infoEr rfl (by decide) _ ys er [.int .i64 er] rfl (by rw [HZ6.out]; rfl) rfl rfl (enI_one _) hO6 (Below.refl _ _) hsz6 (by omega) (by omega) ?_; intro v7 w7 hO7 hB7 hG7 hR7)
        have hA7 : Apart v7 A9 n9 := by
          intro hp ad' e ho
          rcases hR7 with hR7 | ⟨b, hb, hbl⟩
          · exact hA4 hp ad' e (hR7.symm.trans ho)
          · rw [hb] at ho
            injection ho with ho
            have hbl2 : ((((w4.setCell ⟨wr.heap.size, 0, none⟩ (.slice A9 n9 c9)).setCell ⟨wr.heap.size, 1, none⟩ (.slice B9 m9 d9)).setCell ⟨w.heap.size, 0, none⟩ (.slice A9 n9 c9)).setCell ⟨w.heap.size, 1, none⟩ (.slice B9 m9 d9)).heap.size ≤ b := hbl
            have := Row.lt hl6 (by decide) hp ad' e
            omega
        have hB7' : Apart v7 B9 m9 := by
          intro hp ad' e ho
          rcases hR7 with hR7 | ⟨b, hb, hbl⟩
          · exact hB4 hp ad' e (hR7.symm.trans ho)
          · rw [hb] at ho
            injection ho with ho
            have hbl2 : ((((w4.setCell ⟨wr.heap.size, 0, none⟩ (.slice A9 n9 c9)).setCell ⟨wr.heap.size, 1, none⟩ (.slice B9 m9 d9)).setCell ⟨w.heap.size, 0, none⟩ (.slice A9 n9 c9)).setCell ⟨w.heap.size, 1, none⟩ (.slice B9 m9 d9)).heap.size ≤ b := hbl
            have := Row.lt hs6 (by decide) hp ad' e
            omega
        have hl7 := Row.grownP hl6 hG7 hA4
        have hs7 := Row.grownP hs6 hG7 hB4
        have S7 := (hB7.block w.heap.size (by omega)).trans S6
        have Z7 := (hB7.block (w.heap.size + 1) (by omega)).trans Z6
        exact ⟨⟨i + 1, A9, n9, c9, B9, m9, d9, r2, ys ++ [er], by go_num, by omega, HT2, S7, Z7, hl7, hs7, by have := hst.2.2; omega, hst.1, hst.2.1, hO7, by rw [List.length_append]; simp only [List.length_cons, List.length_nil]; omega, hA7, hB7', hD6.trans (hB7.mono (by omega)), Nat.le_trans hsz6 hB7.size⟩, by simp [intOf]; omega⟩
    · have hin : i = ne := by omega
      have hfin := HT.out
      rw [List.take_of_length_le (by have := EE.out; omega), h.out] at hfin
      injection hfin with hf1 hf2
      have HF1 := Lib.hid hf1
      have HF2 := Lib.hid hf2
      have hrow := hO.row
      obtain ⟨⟨s0, s1⟩, ⟨sf0, sf1⟩, sz⟩ := openT S1
      obtain ⟨⟨z0, z1⟩, ⟨zf0, zf1⟩, zz⟩ := openT Z1
      have Z6 := hset0 Z1 A' n' c'
      have Z7 := hset1 Z6 B' m' d'
      have hl7 := Row.setT (Row.setT hl1 nsEn Z1 0 (.slice A' n' c')) nsEn Z6 1 (.slice B' m' d')
      have hs7 := Row.setT (Row.setT hs1 nsSe Z1 0 (.slice A' n' c')) nsSe Z6 1 (.slice B' m' d')
      have hr7 := Row.setT (Row.setT hrow nsI Z1 0 (.slice A' n' c')) nsI Z6 1 (.slice B' m' d')
      have hD7 := bset (bset hB (w.heap.size + 1) 0 (.slice A' n' c') (by omega)) (w.heap.size + 1) 1 (.slice B' m' d') (by omega)
      obtain ⟨⟨y0, y1⟩, ⟨yf0, yf1⟩, yz⟩ := openT Z6
      clear hf1 hf2 HT h hin
      go_wp2
      (try simp only [Exit.inBlock, Exit.then])
      (refine bodyPost_ct rfl (w.heap.size + 1) 25 #[.slice A' n' c', .slice B' m' d'] (0, 0) _ rfl ?_ Tryz.underlying25 rfl info_st rfl ?_)
      · exact Z7
      · rw [HF1.out, HF2.out]
        exact ⟨A', n', c', B', m', d', u6, rfl, hl7, hs7, hr7, hD7⟩
end Go.Proofs.YtbpfcjdjhponaaaGreat
namespace Go.Proofs.YtbpfcjdjhponaaaGreat
open Go.RowKit
open Sp
namespace Sp
def rowT (s : Sta) (p q : ByteArray) : Option Sn := if (seeT s p q).2 then some ⟨q, (seeT s p q).1⟩ else none
def tabT (s : Sta) (p : ByteArray) : List Sn := if mayT s then (mergeS (ofRo s.1 p) []).filterMap (rowT s p) else []
end Sp
theorem form_S15 {w : World} {v : Value} {l : List ByteArray} (h : Row enS 1 w v l) : ∃ A c, v = .slice A l.length c := by
  obtain ⟨A, c, rfl, -⟩ := h
  exact ⟨A, c, rfl⟩
end Go.Proofs.YtbpfcjdjhponaaaGreat
namespace Go.Proofs.YtbpfcjdjhponaaaGreat
open Go.RowKit Go.Shelf
open Sp
attribute [local go_sem] Oper.semAt_some
namespace Sp
def vrowT (s : Sta) (p q : ByteArray) : Option Sn := if (valT s p q).2 then some ⟨q, (valT s p q).1⟩ else none
def vtabT (s : Sta) (p : ByteArray) : List Sn := (ofRo s.1 p).filterMap (vrowT s p)
end Sp
def KpV (b : Nat) (W W' : World) : Prop := Below b W W' ∧ ∀ (g : Nat) (cs : Array Value) (T : TypeId) (fr : Nat × Nat), T ≠ 59 → T ≠ 48 → W.heap[g]? = some (.cells cs T fr) → W'.heap[g]? = some (.cells cs T fr)
theorem KpV.refl (b : Nat) (W : World) : KpV b W W := ⟨Below.refl _ _, fun _ _ _ _ _ _ h => h⟩
theorem KpV.trans {b : Nat} {A B C : World} (h : KpV b A B) (k : KpV b B C) : KpV b A C := ⟨h.1.trans k.1, fun g cs T fr h1 h2 e => k.2 g cs T fr h1 h2 (h.2 g cs T fr h1 h2 e)⟩
theorem KpV.of_below {b : Nat} {A B : World} (h : Below A.heap.size A B) (hb : b ≤ A.heap.size) : KpV b A B := ⟨h.mono hb, fun g cs T fr _ _ e => hcall e h⟩
theorem KpV.putObj {b w : Nat} (hb : b ≤ w) (W : World) (l : Nat) (o o' : Obj) (hl : w ≤ l) (h : W.heap[l]? = some o) (hc : o.isCells = false) (hw : o.isWalk = false) : KpV b W (W.putObj l o') :=
  ⟨⟨(grownBy_putObj' W l o').os, (grownBy_putObj' W l o').tape, (grownBy_putObj' W l o').output, (grownBy_putObj' W l o').size, fun i hi => (by
    by_cases e : i < W.heap.size
    · exact (grownBy_putObj' W l o').block i e (fun e2 => by injection e2 with e2; omega)
    · exact absurd (Array.getElem?_eq_some_iff.1 h).1 (by omega))⟩, fun g cs T fr _ _ e => ((grownBy_putObj' W l o').block g (Array.getElem?_eq_some_iff.1 e).1 (fun e2 => by
      injection e2 with e2
      rw [e2, h] at e
      injection e with e
      rw [e] at hc
      cases hc)).trans e⟩
theorem KpV.own {b : Nat} {W W' : World} (h : KpV b W W') {α : Type} {enc : α → List Value} {k base : Nat} {v : Value} {xs : List α} (hr : Own enc k 9 W base v xs) : Own enc k 9 W' base v xs := by
  refine ⟨hr.1, ?_⟩
  rcases hr.2 with h2 | ⟨g, cap, cur, e1, e2, e3, e4⟩
  · exact .inl h2
  · exact .inr ⟨g, cap, cur, e1, e2, h.2 _ _ _ _ (by decide) (by decide) e3, e4⟩
set_option maxHeartbeats 1000000 in
set_option maxRecDepth 100000 in
theorem rows_calls (n c : Nat) (A : Option Addr) (m d : Nat) (B : Option Addr) (p : ByteArray) (w : World) :
    Calls Tryz.prog 66 #[agT A n c B m d, .string p] w fun e w' => e = .returned (.func (.func 118) #[] #[.pointer (some ⟨w.heap.size, 0, none⟩), .pointer (some ⟨w.heap.size + 1, 0, none⟩)]) ∧ w' = (w.alloc (bxT A n c B m d)).alloc (.cells #[.string p] 9) := by
  go_enter Tryz.func66, Tryz.ntmps66
  go_wp2
  go_ret
  exact ⟨rfl, rfl⟩
abbrev encVw (x : Sn) : Array Value := #[.string x.c, .agg #[.int .i64 x.v.1, .int .i64 x.v.2.1, .int .i64 x.v.2.2.1, .string x.v.2.2.2]]
set_option maxHeartbeats 16000000 in
set_option maxRecDepth 100000 in
theorem rows_stops (fn_ : Nat) (n c : Nat) (A : Option Addr) (l : List En) (m d : Nat) (B : Option Addr) (s : List Se) (w0 w : World) (hl : Row enEn 7 w0 (.slice A n c) l) (hs : Row enSe 6 w0 (.slice B m d) s) (hz : SzRo l) (hy : SzSe s) (hn : n ≤ 100000) (hm : m ≤ 100000) (p : ByteArray) (gs gw : Nat) (D0 : Below w0.heap.size w0 w) (hb : w.heap[gs]? = some (bxT A n c B m d)) (hw : w.heap[gw]? = some (.cells #[.string p] 9)) (hf1 : 1 ≤ fn_) :
    SeqStopsK Fence.wide fn_ Tryz.prog 118 #[.pointer (some ⟨gs, 0, none⟩), .pointer (some ⟨gw, 0, none⟩)] encVw (KpV w0.heap.size) (fun ys => ys = vtabT (l, s) p) (fun _ => True) n w := fun lp J Jx W hW hJ hJx hY h0 => by
  have D := D0.trans (hW.mono D0.size)
  replace hb := hcall hb hW
  replace hw := hcall hw hW
  obtain ⟨z0, z1, zz⟩ := cellsT hb
  have cw : W.cell? ⟨gw, 0, none⟩ = some (.string p) := by simp [World.cell?, hw]
  refine callsIn_of_wp Tryz.func118 rfl trivial ?_ rfl
  simp only [Tryz.ntmps118, List.size_toArray, List.length_cons, List.length_nil, Nat.reduceAdd, Nat.reduceSub, Array.replicate_succ, Array.replicate_zero, List.push_toArray, List.append_toArray, List.nil_append, List.cons_append]
  gi_wp2_with fail
  refine ⟨trivial, ?_⟩
  refine (callsIn_wide.2 (OfRo_calls n c A l p W (hl.below D) hn)).mono ?_
  rintro e w1 ⟨v, rfl, ho, b1⟩
  obtain ⟨us, hus⟩ : ∃ us, (l.filter (fun s : En => decide (s.o = p))).map En.c = us := ⟨_, rfl⟩
  rw [hus] at ho
  have hul : us.length ≤ n := by
    rw [← hus, List.length_map, (hl.len_eq : n = l.length)]
    exact List.length_filter_le _ _
  have HU : Hid (ofRo l p = us) := hus
  have HT0 : Hid (vtabT (l, s) p = us.filterMap (vrowT (l, s) p)) := by
    show _ = _
    unfold vtabT
    rw [HU.out]
  obtain ⟨uA, uc, rfl, huc⟩ := ho.slice
  obtain ⟨un, hun⟩ : ∃ un, us.length = un := ⟨_, rfl⟩
  have hun63 : un ≤ 9223372036854775807 := by rw [← hun]; exact ho.row.len
  have HUN := Lib.hid hun
  rw [hun] at huc hul
  try rw [hun]
  have hO : Own enS 1 9 w1 W.heap.size (.slice uA un uc) us := by rw [← hun]; exact ho
  have D1 := D.trans (b1.mono D.size)
  replace hb := hcall hb b1
  replace hw := hcall hw b1
  have hJ1 : J [] w1 := hJ _ _ _ none h0 (grown_of_below b1 none) (fun r e => by cases e)
  clear hus hun ho z0 z1 zz cw b1
  gi_wp2
  gi_loopw [13] (fun v13 wr => ∃ (k : Nat) (pre : List Sn), v13 = .int .i64 k ∧ k ≤ un ∧ Hid ((us.take k).filterMap (vrowT (l, s) p) = pre) ∧ pre.length ≤ k ∧ J pre wr ∧ KpV w0.heap.size w1 wr) (fun v13 _ => (un - intOf v13).toNat)
  case atStart => exact ⟨0, [], rfl, Nat.zero_le _, rfl, Nat.le_refl _, hJ1, KpV.refl _ _⟩
  case round =>
    obtain ⟨k, pre, rfl, hk, HT, hpk, hJr, hK⟩ := hrel
    by_cases hlt : k < un
    · have hkl : k < us.length := by have := HUN.out; omega
      obtain ⟨x, hx⟩ : ∃ x, us[k] = x := ⟨_, rfl⟩
      have hOr := hK.own hO
      obtain ⟨ad, rfl, cx⟩ := hOr.row.get1 (f := Value.string) k hkl
      rw [hx] at cx
      obtain ⟨a, b_, e_, t, y, hv⟩ : ∃ a b_ e_ t y, valT (l, s) p x = ((a, b_, e_, t), y) := ⟨_, _, _, _, _, rfl⟩
      have HT2 : Hid ((us.take (k + 1)).filterMap (vrowT (l, s) p) = pre ++ (if y then [⟨x, (a, b_, e_, t)⟩] else [])) := by
        show _ = _
        rw [List.take_succ_eq_append_getElem hkl, List.filterMap_append, HT.out, hx]
        congr 1
        unfold vrowT
        simp only [hv, List.filterMap_cons, List.filterMap_nil]
        cases y <;> rfl
      have HV := Lib.hid hv
      have x1 : (0 : Int) ≤ (k : Int) := by omega
      have x2 : (k : Int) < (un : Int) := by omega
      have Dr := D1.trans hK.1
      have hbr := hK.2 _ _ _ _ (by decide) (by decide) hb
      have hwr := hK.2 _ _ _ _ (by decide) (by decide) hw
      obtain ⟨z0, z1, zz⟩ := cellsT hbr
      have cw : wr.cell? ⟨gw, 0, none⟩ = some (.string p) := by simp [World.cell?, hwr]
      clear hv hx
      gi_wp2_with fail
      refine ⟨trivial, ?_⟩
      refine (callsIn_wide.2 (vValue_is n c A l m d B s wr (hl.below Dr) (hs.below Dr) hz hy hn hm p x a b_ e_ t y HV)).mono ?_
      rintro e w2 ⟨rfl, b2⟩
      have hJ2 : J pre w2 := hJ _ _ _ none hJr (grown_of_below b2 none) (fun r e => by cases e)
      have hK2 : KpV w0.heap.size w1 w2 := hK.trans (KpV.of_below b2 (by have := Dr.size; omega))
      have bb := below_box (w := w2) (bxPv a b_ e_ t)
      have hJ3 : J pre (w2.alloc (bxPv a b_ e_ t)) := hJ _ _ _ none hJ2 (grown_of_below bb none) (fun r e => by cases e)
      have hK3 : KpV w0.heap.size w1 (w2.alloc (bxPv a b_ e_ t)) := hK2.trans (KpV.of_below bb (by have := Dr.size; have := b2.size; omega))
      obtain ⟨y0, y1, y2, y3, yz⟩ := cellsPv (heap_alloc_new w2 (bxPv a b_ e_ t))
      clear hJ2 hK2 bb z0 z1 zz cw cx
      cases y
      · have HT3 : Hid ((us.take (k + 1)).filterMap (vrowT (l, s) p) = pre) := by
          show _ = _
          rw [HT2.out]
          simp
        gi_wp2
        refine ⟨fun _ h => (by cases h), ?_⟩
        gi_wp2
        go_roundw
        case rel => exact ⟨k + 1, pre, by go_num, by omega, HT3, by omega, hJ3, hK3⟩
        case measure => simp [intOf]; omega
      · have HT3 : Hid ((us.take (k + 1)).filterMap (vrowT (l, s) p) = pre ++ [⟨x, (a, b_, e_, t)⟩]) := HT2
        obtain ⟨fn, tmps, assign, body, hyy, hR⟩ := hY pre ⟨x, (a, b_, e_, t)⟩ _ hJ3 (by omega)
        gi_wp2
        refine hR.mono ?_
        rintro e W3 (⟨rfl, hJ4, hk4⟩ | ⟨rfl, hJx4⟩)
        · gi_wp2
          go_roundw
          case rel => exact ⟨k + 1, pre ++ [⟨x, (a, b_, e_, t)⟩], by go_num, by omega, HT3, by rw [List.length_append]; simp only [List.length_cons, List.length_nil]; omega, hJ4, hK3.trans hk4⟩
          case measure => simp [intOf]; omega
        · gi_wp2
          refine bodyPost_ret (results_none rfl _ _ _) rfl ?_
          exact ⟨⟨_, rfl⟩, .inr ⟨_, trivial, hJx4⟩⟩
    · have hkn : k = un := by omega
      subst hkn
      have HF : Hid (vtabT (l, s) p = pre) := by
        show _ = _
        rw [HT0.out, ← HT.out, List.take_of_length_le (Nat.le_of_eq HUN.out)]
      gi_wp2
      go_end0
      exact ⟨⟨_, rfl⟩, .inl ⟨pre, HF.out.symm, hJr⟩⟩
end Go.Proofs.YtbpfcjdjhponaaaGreat
namespace Go.Proofs.YtbpfcjdjhponaaaGreat
open Go.RowKit Go.Shelf
open Sp
attribute [local go_sem] Oper.semAt_some
theorem KpV.appended {W w1 : World} {b B : Nat} {v v' : Value} {k : Nat} {xs : List Value} {tmp : Obj} (hv : Boxed W B 48 v) (hrow : W.ownsRow b 59 5 v k xs) (hgrow : (W.alloc tmp).grownBy w1 v.ownBlock) (hB : Below b W (w1.setCell ⟨B, 0, none⟩ v')) : KpV b W (w1.setCell ⟨B, 0, none⟩ v') :=
  ⟨hB, fun g cs T fr h1 h2 e => by
    have e1 := halloc e tmp
    have e2 : w1.heap[g]? = some (.cells cs T fr) := by
      refine (hgrow.block g (Array.getElem?_eq_some_iff.1 e1).1 (fun e3 => ?_)).trans e1
      rcases hrow.2 with ⟨rfl, _⟩ | ⟨q, cap, cur, rfl, _, hgb, _⟩
      · cases e3
      · injection e3 with e3
        subst e3
        rw [e] at hgb
        injection hgb with hgb
        injection hgb with _ hgb _
        exact h1 hgb
    refine keep1 e2 (fun e3 => ?_)
    subst e3
    have hv' : W.heap[B]? = _ := hv
    rw [e] at hv'
    injection hv' with hv'
    injection hv' with _ hv' _
    exact h2 hv'⟩
def VwAt (w0 : World) (B : Nat) (pre : List Sn) (W : World) : Prop := (∃ v, Boxed W B 48 v ∧ Own enSn 5 59 W w0.heap.size v pre) ∧ Below w0.heap.size w0 W ∧ B + 2 < W.heap.size
theorem VwAt.own {w0 : World} {B C : Nat} (hC : w0.heap.size ≤ C) : OwnFrom C (VwAt w0 B) := fun s W W' row hs hg hr => by
  obtain ⟨⟨v, hv, hO⟩, D, hBs⟩ := hs
  refine ⟨⟨v, hv.kept hg (fun e => ?_), hO.kept hg ?_⟩, D.grown hg D.size (fun k e => Nat.le_trans hC (hr k e).1), Nat.lt_of_lt_of_le hBs hg.size⟩
  · obtain ⟨_, o, ho, hc⟩ := hr _ e.symm
    have hv' : W.heap[B]? = _ := hv
    rw [ho] at hv'
    injection hv' with hv'
    rw [hv'] at hc
    cases hc
  · rcases hO.2 with ⟨rfl, _⟩ | ⟨q, cap, cur, rfl, _, hgb, _⟩
    · exact .inl rfl
    · refine .inr fun e => ?_
      obtain ⟨_, o, ho, hc⟩ := hr q e.symm
      rw [ho] at hgb
      injection hgb with hgb
      rw [hgb] at hc
      cases hc
theorem VwAt.alloc {w0 W : World} {B : Nat} {pre : List Sn} (h : VwAt w0 B pre W) (o : Obj) : VwAt w0 B pre (W.alloc o) := by
  obtain ⟨⟨v, hv, hO⟩, D, hBs⟩ := h
  exact ⟨⟨v, hv.alloc _, hO.alloc _⟩, below_alloc0 D _, by rw [size_alloc]; omega⟩
def AxV (n c : Nat) (A : Option Addr) (m d : Nat) (B : Option Addr) (p : ByteArray) (g : Nat) (x : Sn) (a' : Act) (W : World) : Prop :=
  ∃ Bx, g + 3 < Bx ∧ W.heap[Bx]? = some (bxPv x.v.1 x.v.2.1 x.v.2.2.1 x.v.2.2.2) ∧ a' = { tmps := #[agT A n c B m d, .string p, .pointer (some ⟨g, 0, none⟩), undef, .slice none 0 0, .pointer (some ⟨g + 1, 0, none⟩), .string x.c, .pointer (some ⟨Bx, 0, none⟩), agT A n c B m d, .string p, .func (.func 118) #[] #[.pointer (some ⟨g + 1 + 1, 0, none⟩), .pointer (some ⟨g + 1 + 1 + 1, 0, none⟩)], .string x.c, .agg #[.int .i64 x.v.1, .int .i64 x.v.2.1, .int .i64 x.v.2.2.1, .string x.v.2.2.2], undef, undef, undef, undef, undef, undef, undef], defers := [] }
theorem AxV.own {n c : Nat} {A : Option Addr} {m d : Nat} {B : Option Addr} {p : ByteArray} {g C : Nat} (x : Sn) (a' : Act) : OwnFrom C (fun (_ : Unit) W => AxV n c A m d B p g x a' W) := fun _ W W' row hs hg hr => by
  obtain ⟨Bx, h1, h2, h3⟩ := hs
  refine ⟨Bx, h1, (hg.block Bx (Array.getElem?_eq_some_iff.1 h2).1 (fun e => ?_)).trans h2, h3⟩
  obtain ⟨_, o, ho, hc⟩ := hr _ e.symm
  rw [ho] at h2
  injection h2 with h2
  rw [h2] at hc
  cases hc
set_option maxHeartbeats 16000000 in
set_option maxRecDepth 100000 in
theorem vOf_calls (n c : Nat) (A : Option Addr) (l : List En) (m d : Nat) (B : Option Addr) (s : List Se) (w : World) (hl : Row enEn 7 w (.slice A n c) l) (hs : Row enSe 6 w (.slice B m d) s) (hz : SzRo l) (hy : SzSe s) (hn : n ≤ 100000) (hm : m ≤ 100000) (p : ByteArray) :
    Calls Tryz.prog 22 #[agT A n c B m d, .string p] w fun e w' => ∃ v, e = .returned v ∧ Row enSn 5 w' v (vtabT (l, s) p) ∧ Below w.heap.size w w' := by
  obtain ⟨i0, hi, hz0, hz1, hz2⟩ := info_parts infoSn
  refine (callsIn_wide (n := 3)).1 ?_
  have h1 : 1 ≤ 3 := by omega
  have bO := Boxed.new (w.alloc (bxT A n c B m d)) 48 (.slice none 0 0)
  rw [size_alloc] at bO
  have D0 := below_alloc0 (below_alloc0 (below_alloc0 (below_box (w := w) (bxT A n c B m d)) (.cells #[.slice none 0 0] 48)) (bxT A n c B m d)) (.cells #[.string p] 9)
  have hbT := heap_alloc_new ((w.alloc (bxT A n c B m d)).alloc (.cells #[.slice none 0 0] 48)) (bxT A n c B m d)
  have hbS := heap_alloc_new (((w.alloc (bxT A n c B m d)).alloc (.cells #[.slice none 0 0] 48)).alloc (bxT A n c B m d)) (.cells #[.string p] 9)
  rw [size_alloc, size_alloc] at hbT
  rw [size_alloc, size_alloc, size_alloc] at hbS
  replace hbT := halloc hbT (.cells #[.string p] 9)
  replace bO := (bO.alloc (bxT A n c B m d)).alloc (.cells #[.string p] 9)
  have hsz : ((((w.alloc (bxT A n c B m d)).alloc (.cells #[.slice none 0 0] 48)).alloc (bxT A n c B m d)).alloc (.cells #[.string p] 9)).heap.size = w.heap.size + 4 := by simp only [size_alloc]
  refine callsIn_of_wp_marks Tryz.func22 rfl trivial ?_ rfl
  simp only [Tryz.ntmps22, List.size_toArray, List.length_cons, List.length_nil, Nat.reduceAdd, Nat.reduceSub, Array.replicate_succ, Array.replicate_zero, List.push_toArray, List.append_toArray, List.nil_append, List.cons_append]
  gi_wp2_with fail
  refine ⟨trivial, ?_⟩
  refine (callsIn_wide.2 (rows_calls n c A m d B p _)).mono ?_
  rintro e w1 ⟨rfl, rfl⟩
  gi_wp2_with fail
  obtain ⟨W0, hW0⟩ : ∃ W0, (((w.alloc (bxT A n c B m d)).alloc (.cells #[.slice none 0 0] 48)).alloc (bxT A n c B m d)).alloc (.cells #[.string p] 9) = W0 := ⟨_, rfl⟩
  rw [hW0] at bO D0 hbT hbS hsz
  try rw [hW0]
  obtain ⟨g, hgg⟩ : ∃ g, w.heap.size = g := ⟨_, rfl⟩
  rw [hgg] at bO hbT hbS hsz
  try rw [hgg]
  have hsz4 : g + 3 < W0.heap.size := by omega
  refine wpIn_rangeFunc_ownH rfl h1 (gf := 118) (lb := #[.pointer (some ⟨g + 1 + 1, 0, none⟩), .pointer (some ⟨g + 1 + 1 + 1, 0, none⟩)]) rfl trivial (enters_of Tryz.func118 (by kernel_rfl) rfl)
    (rows_stops (3 - 1) n c A l m d B s w W0 hl hs hz hy hn hm p (g + 1 + 1) (g + 1 + 1 + 1) D0 hbT hbS (by omega)) (fun h k => KpV.trans h k) (fun W l o o' hl h hc hw => KpV.putObj D0.size W l o o' hl h hc hw) (Below.refl _ _) (fun _ => rfl)
    (VwAt w (g + 1)) (fun _ _ _ => False) (VwAt.own D0.size) (fun _ _ _ _ _ hs _ _ => hs) ⟨⟨_, bO, Own.nil _ _ _ _ _⟩, D0, by omega⟩
    (AxV n c A m d B p g) (fun x a' => AxV.own x a') ?assign ?body ?done ?stop
  case assign =>
    rintro lp pre x W K hI hK
    have hWs : g + 3 < W.heap.size := hI.2.2
    have hnew := heap_alloc_new W (bxPv x.v.1 x.v.2.1 x.v.2.2.1 x.v.2.2.2)
    gi_wp2
    exact hK _ _ ((KeepsOthers.alloc _ _).from _) (KpV.of_below (below_box _) hI.2.1.size) (hI.alloc _) ⟨W.heap.size, hWs, hnew, rfl⟩
  case body =>
    rintro lp pre x a' W hlp ⟨r, hr⟩ ⟨⟨v, hv, hO⟩, D, hBs⟩ ⟨Bx, hBx, hbx, rfl⟩ hlt
    have hc := hv.cell
    have hnb : (pre.length + 1) * 56 ≤ 140737488355328 := by omega
    obtain ⟨y0, y1, y2, y3, yz⟩ := cellsPv hbx
    gi_wp2_with (gi_at_builtin; refine wpListIn_append_own _ rfl _ _ 48 rfl w.heap.size 59 i0 zvSn 5 56 Tryz.underlying48 hi hz0 hz1 hz2 rfl (by decide) _ _ _ rfl (hO.alloc _) ⟨W.heap.size, 0, none⟩ 1 1 (enSn x) rfl rfl (by simpa [enSn] using World.news_of_block (heap_alloc_new W (.cells #[.string x.c, .int .i64 x.v.1, .int .i64 x.v.2.1, .int .i64 x.v.2.2.1, .string x.v.2.2.2] 59))) (enSn_one x) (by simp only [maxLen]; omega) (by omega) (by have := D.size; simp; omega) ?_; intro v' w1 hown' hgrow _; obtain ⟨g', cap', rfl⟩ := ownsRow_succ hown'; obtain ⟨hv1, hv2, hr2, hk2, hb2⟩ := hv.appended (by decide) hO D.size (by omega) hown' hgrow; have hc1 := hv1.cell; have hf1 := hv1.frozen)
    have hO2 : Own enSn 5 59 (w1.setCell ⟨g + 1, 0, none⟩ (.slice (some ⟨g', 0, none⟩) (pre.length + 1) cap')) w.heap.size (.slice (some ⟨g', 0, none⟩) (pre.length + 1) cap') (pre ++ [x]) := by
      unfold Own
      rw [List.flatMap_append, List.length_append]
      simpa using hr2
    exact ⟨hk2.from _, KpV.appended hv hO hgrow hb2, ⟨⟨_, hv2, hO2⟩, D.trans hb2, Nat.lt_of_lt_of_le hBs hb2.size⟩⟩
  case done =>
    rintro D ys W hD rfl ⟨⟨v, hv, hO⟩, hB, hBs⟩ hK
    have hc := hv.cell
    gi_wp2
    refine ⟨by simp, .inl ⟨_, _, rfl, run_takeDeferred hK, ?_⟩⟩
    exact ⟨_, results_tmp rfl _ _ _, v, rfl, Own.row (ownsRow_putObj hO _ hK rfl), hB.trans (belowK_b (w := w) (Nat.le_refl _) W D _ _ (by have := D0.size; omega) hK rfl rfl)⟩
  case stop =>
    rintro D c pre W _ _ h _
    exact h.elim
end Go.Proofs.YtbpfcjdjhponaaaGreat
