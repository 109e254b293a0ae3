/-
Layer 23: the walk of ScriptReads.
-/
import Derived.Test.YtobhlcogopcbdaaScrV
set_option linter.unusedVariables false
set_option linter.unusedSimpArgs false
namespace Go.Proofs.Ytobhlcogopcbdaa
open Go.RowKit
open Sp
theorem eq_self (k : Int) (u o : ByteArray) (x a p q : Int) (t : ByteArray) (W : World) :
    (binOp .eql 44 (.agg #[.int .i64 k, .string u, .string o, .int .i64 x, .int .i64 a, .int .i64 p, .int .i64 q, .string t]) (.agg #[.int .i64 k, .string u, .string o, .int .i64 x, .int .i64 a, .int .i64 p, .int .i64 q, .string t])).run Try.prog W =
      .ok (.bool true) W := by simp [go_sem]
theorem refSeal_is (s t : ByteArray) (w : World) (hs : s.size ≤ 140737488351232) (h : Hid (sealS s = t)) :
    Calls Try.prog 33 #[.string s] w fun e w' => e = .returned (.string t) ∧ Below w.heap.size w w' := by
  have := refSeal_calls s w hs
  rwa [h.out] at this
theorem unb_is (s : ByteArray) (l : List Ev) (er : Int) (w : World) (hs : s.size ≤ 1048576) (h : Hid (unbE s = (l, er))) :
    Calls Try.prog 34 #[.string s] w fun e w' => ∃ v, e = .returned (.tuple #[v, .int .i64 er]) ∧ Own enE 8 44 w' w.heap.size v l ∧ Below w.heap.size w w' := by
  have := unb_calls s w hs
  rwa [h.out] at this
theorem refUnb_is (s : ByteArray) (l : List Ev) (er : Int) (w : World) (hs : s.size ≤ 1048576) (h : Hid (unbE s = (l, er))) :
    Calls Try.prog 35 #[.string s] w fun e w' => ∃ v, e = .returned (.tuple #[v, .int .i64 er]) ∧ Own enE 8 44 w' w.heap.size v l ∧ Below w.heap.size w w' := by
  have := refUnb_calls s w hs
  rwa [h.out] at this
set_option maxHeartbeats 8000000 in
set_option maxRecDepth 100000 in
theorem reads_small (s : ByteArray) (w : World) (hs : s.size ≤ 1500) (q : ByteArray) (hq : q.size ≤ 1504) (k1 : Int) (u1 o1 : ByteArray) (i1 a1 p1 n1 : Int) (t1 : ByteArray) (e1 : Int) (k2 : Int) (u2 o2 : ByteArray) (i2 a2 p2 n2 : Int) (t2 : ByteArray) (e2 : Int) (l : List Ev) (e3 : Int)
    (HQ : Hid (sealS s = q)) (HD1 : Hid (decR s = (⟨k1, u1, o1, i1, a1, p1, n1, t1⟩, e1))) (HD2 : Hid (decR q = (⟨k2, u2, o2, i2, a2, p2, n2, t2⟩, e2))) (HU : Hid (unbE s = (l, e3))) :
    Calls Try.prog 10 #[.string s] w fun e w' => e = .returned (.bool true) ∧ Below w.heap.size w w' := by
  go_enter Try.func10, Try.ntmps10
  go_wp2_with fail
  refine (dec_is s ⟨k1, u1, o1, i1, a1, p1, n1, t1⟩ e1 _ (by omega) HD1).mono ?_
  rintro e w1 ⟨rfl, b1⟩
  have B1 := below_call (Below.refl w.heap.size w) b1
  clear b1
  unfold evV
  go_wp2_with fail
  refine (refDec_is s ⟨k1, u1, o1, i1, a1, p1, n1, t1⟩ e1 _ (by omega) HD1).mono ?_
  rintro e w2 ⟨rfl, b2⟩
  have B2 := below_call (below_alloc0 B1 _) b2
  have hp2 : w2.heap[w1.heap.size]? = some (.cells #[.int .i64 k1, .string u1, .string o1, .int .i64 i1, .int .i64 a1, .int .i64 p1, .int .i64 n1, .string t1] 44) := hcall (heap_alloc_new w1 (.cells #[.int .i64 k1, .string u1, .string o1, .int .i64 i1, .int .i64 a1, .int .i64 p1, .int .i64 n1, .string t1] 44)) b2
  clear b2 B1
  unfold evV
  go_wp2_with fail
  refine (refSeal_is s q _ (by omega) HQ).mono ?_
  rintro e w3 ⟨rfl, b3⟩
  have B3 := below_call (below_alloc0 B2 _) b3
  have hp3 : w3.heap[w1.heap.size]? = some (.cells #[.int .i64 k1, .string u1, .string o1, .int .i64 i1, .int .i64 a1, .int .i64 p1, .int .i64 n1, .string t1] 44) := hcall (halloc (hp2) _) b3
  have hq3 : w3.heap[w2.heap.size]? = some (.cells #[.int .i64 k1, .string u1, .string o1, .int .i64 i1, .int .i64 a1, .int .i64 p1, .int .i64 n1, .string t1] 44) := hcall (heap_alloc_new w2 (.cells #[.int .i64 k1, .string u1, .string o1, .int .i64 i1, .int .i64 a1, .int .i64 p1, .int .i64 n1, .string t1] 44)) b3
  clear b3 B2 hp2
  go_wp2_with fail
  refine (dec_is q ⟨k2, u2, o2, i2, a2, p2, n2, t2⟩ e2 _ (by omega) HD2).mono ?_
  rintro e w4 ⟨rfl, b4⟩
  have B4 := below_call B3 b4
  have hp4 : w4.heap[w1.heap.size]? = some (.cells #[.int .i64 k1, .string u1, .string o1, .int .i64 i1, .int .i64 a1, .int .i64 p1, .int .i64 n1, .string t1] 44) := hcall (hp3) b4
  have hq4 : w4.heap[w2.heap.size]? = some (.cells #[.int .i64 k1, .string u1, .string o1, .int .i64 i1, .int .i64 a1, .int .i64 p1, .int .i64 n1, .string t1] 44) := hcall (hq3) b4
  clear b4 B3 hp3 hq3
  unfold evV
  go_wp2_with fail
  refine (refDec_is q ⟨k2, u2, o2, i2, a2, p2, n2, t2⟩ e2 _ (by omega) HD2).mono ?_
  rintro e w5 ⟨rfl, b5⟩
  have B5 := below_call (below_alloc0 B4 _) b5
  have hp5 : w5.heap[w1.heap.size]? = some (.cells #[.int .i64 k1, .string u1, .string o1, .int .i64 i1, .int .i64 a1, .int .i64 p1, .int .i64 n1, .string t1] 44) := hcall (halloc (hp4) _) b5
  have hq5 : w5.heap[w2.heap.size]? = some (.cells #[.int .i64 k1, .string u1, .string o1, .int .i64 i1, .int .i64 a1, .int .i64 p1, .int .i64 n1, .string t1] 44) := hcall (halloc (hq4) _) b5
  have hr5 : w5.heap[w4.heap.size]? = some (.cells #[.int .i64 k2, .string u2, .string o2, .int .i64 i2, .int .i64 a2, .int .i64 p2, .int .i64 n2, .string t2] 44) := hcall (heap_alloc_new w4 (.cells #[.int .i64 k2, .string u2, .string o2, .int .i64 i2, .int .i64 a2, .int .i64 p2, .int .i64 n2, .string t2] 44)) b5
  clear b5 B4 hp4 hq4
  unfold evV
  go_wp2_with fail
  refine (unb_is s l e3 _ (by omega) HU).mono ?_
  rintro e w6 ⟨v1, rfl, ho1, b6⟩
  have B6 := below_call (below_alloc0 B5 _) b6
  have hp6 : w6.heap[w1.heap.size]? = some (.cells #[.int .i64 k1, .string u1, .string o1, .int .i64 i1, .int .i64 a1, .int .i64 p1, .int .i64 n1, .string t1] 44) := hcall (halloc (hp5) _) b6
  have hq6 : w6.heap[w2.heap.size]? = some (.cells #[.int .i64 k1, .string u1, .string o1, .int .i64 i1, .int .i64 a1, .int .i64 p1, .int .i64 n1, .string t1] 44) := hcall (halloc (hq5) _) b6
  have hr6 : w6.heap[w4.heap.size]? = some (.cells #[.int .i64 k2, .string u2, .string o2, .int .i64 i2, .int .i64 a2, .int .i64 p2, .int .i64 n2, .string t2] 44) := hcall (halloc (hr5) _) b6
  have hs6 : w6.heap[w5.heap.size]? = some (.cells #[.int .i64 k2, .string u2, .string o2, .int .i64 i2, .int .i64 a2, .int .i64 p2, .int .i64 n2, .string t2] 44) := hcall (heap_alloc_new w5 (.cells #[.int .i64 k2, .string u2, .string o2, .int .i64 i2, .int .i64 a2, .int .i64 p2, .int .i64 n2, .string t2] 44)) b6
  clear b6 B5 hp5 hq5 hr5
  obtain ⟨A1, m1, cc1, rfl⟩ : ∃ A m c, v1 = .slice A m c := by obtain ⟨A, c, rfl, _⟩ := ho1.slice; exact ⟨_, _, _, rfl⟩
  have hl1 := ho1.row
  clear ho1
  go_wp2_with fail
  refine (refUnb_is s l e3 _ (by omega) HU).mono ?_
  rintro e w7 ⟨v2, rfl, ho2, b7⟩
  have B7 := below_call B6 b7
  have hp7 : w7.heap[w1.heap.size]? = some (.cells #[.int .i64 k1, .string u1, .string o1, .int .i64 i1, .int .i64 a1, .int .i64 p1, .int .i64 n1, .string t1] 44) := hcall (hp6) b7
  have hq7 : w7.heap[w2.heap.size]? = some (.cells #[.int .i64 k1, .string u1, .string o1, .int .i64 i1, .int .i64 a1, .int .i64 p1, .int .i64 n1, .string t1] 44) := hcall (hq6) b7
  have hr7 : w7.heap[w4.heap.size]? = some (.cells #[.int .i64 k2, .string u2, .string o2, .int .i64 i2, .int .i64 a2, .int .i64 p2, .int .i64 n2, .string t2] 44) := hcall (hr6) b7
  have hs7 : w7.heap[w5.heap.size]? = some (.cells #[.int .i64 k2, .string u2, .string o2, .int .i64 i2, .int .i64 a2, .int .i64 p2, .int .i64 n2, .string t2] 44) := hcall (hs6) b7
  have hl1' := hl1.below b7
  clear b7 B6 hp6 hq6 hr6 hs6
  obtain ⟨A2, m2, cc2, rfl⟩ : ∃ A m c, v2 = .slice A m c := by obtain ⟨A, c, rfl, _⟩ := ho2.slice; exact ⟨_, _, _, rfl⟩
  have hl2 := ho2.row
  clear ho2 hl1
  obtain ⟨chp0, chp1, chp2, chp3, chp4, chp5, chp6, chp7, zhp⟩ := cells8 hp7
  obtain ⟨chq0, chq1, chq2, chq3, chq4, chq5, chq6, chq7, zhq⟩ := cells8 hq7
  obtain ⟨chr0, chr1, chr2, chr3, chr4, chr5, chr6, chr7, zhr⟩ := cells8 hr7
  obtain ⟨chs0, chs1, chs2, chs3, chs4, chs5, chs6, chs7, zhs⟩ := cells8 hs7
  have EQ1 := eq_self k1 u1 o1 i1 a1 p1 n1 t1
  have EQ2 := eq_self k2 u2 o2 i2 a2 p2 n2 t2
  go_wp2_with fail
  refine (sameE_calls m1 cc1 m2 cc2 _ _ l l _ hl1' hl2).mono ?_
  rintro e w8 ⟨bs, rfl, hs, b8⟩
  have B8 := below_call B7 b8
  obtain rfl : bs = true := hs.2 rfl
  clear hs hl1' hl2
  clear b8 B7
  go_wp2_with fail
  refine (live23 _).mono ?_
  rintro e w9 ⟨rfl, b9⟩
  have B9 := below_call B8 b9
  go_wp2
  go_ret
  exact ⟨rfl, B9⟩
set_option maxRecDepth 100000 in
theorem reads_walk (s : ByteArray) (w : World) (hs : s.size ≤ 9223372036854775807) : Calls Try.prog 10 #[.string s] w fun e w' => e = .returned (.bool true) ∧ Below w.heap.size w w' := by
  by_cases h : s.size ≤ 1500
  · obtain ⟨⟨k1, u1, o1, i1, a1, p1, n1, t1⟩, e1, h1⟩ : ∃ f e, decR s = (f, e) := ⟨_, _, rfl⟩
    obtain ⟨⟨k2, u2, o2, i2, a2, p2, n2, t2⟩, e2, h2⟩ : ∃ f e, decR (sealS s) = (f, e) := ⟨_, _, rfl⟩
    obtain ⟨l, e3, h3⟩ : ∃ f e, unbE s = (f, e) := ⟨_, _, rfl⟩
    exact reads_small s w h (sealS s) (by rw [sealS_size]; omega) k1 u1 o1 i1 a1 p1 n1 t1 e1 k2 u2 o2 i2 a2 p2 n2 t2 e2 l e3 rfl h1 h2 h3
  · have hb : (1500 : Int) < s.size := by omega
    clear h
    go_enter Try.func10, Try.ntmps10
    go_wp2_with fail
    refine (live23 _).mono ?_
    rintro e w1 ⟨rfl, b1⟩
    go_wp2
    go_ret
    exact ⟨rfl, b1⟩
end Go.Proofs.Ytobhlcogopcbdaa
