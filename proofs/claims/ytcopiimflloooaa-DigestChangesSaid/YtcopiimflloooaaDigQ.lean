/-
Layer 5: the answers by their equations; 'live' of the statements on tables.
-/
import Derived.Test.YtcopiimflloooaaDigOP
import Derived.Test.YtcopiimflloooaaDigIJ
import Derived.Test.YtcopiimflloooaaDigQ0
set_option linter.unusedVariables false
set_option linter.unusedSimpArgs false
namespace Go.Proofs.Ytcopiimflloooaa
open Go.RowKit
open Sp
section
variable (n c : Nat) (A : Option Addr) (l : List Sn) (w : World) (hl : Row enSn 5 w (.slice A n c) l)
include hl
theorem Put5_is (s : ByteArray) (b : Bool) (hz : SzT l) (h : Hid (putT l = (s, b))) :
    Calls Try.prog 33 #[.slice A n c] w fun e w' => e = .returned (.tuple #[.string s, .bool b]) ∧ Below w.heap.size w w' := by
  have := PutT_calls n c A l w hl hz
  rwa [h.out] at this
theorem refPut5_is (s : ByteArray) (b : Bool) (hz : SzT l) (h : Hid (putT l = (s, b))) :
    Calls Try.prog 34 #[.slice A n c] w fun e w' => e = .returned (.tuple #[.string s, .bool b]) ∧ Below w.heap.size w w' := by
  have := refPutT_calls n c A l w hl hz
  rwa [h.out] at this
theorem Sum5_is (k : Int) (hz : SzT l) (h : Hid (((sumT l : Nat) : Int) = k)) :
    Calls Try.prog 37 #[.slice A n c] w fun e w' => e = .returned (.int .u64 k) ∧ Below w.heap.size w w' := by
  have := SumT_calls n c A l w hl hz
  rwa [h.out] at this
theorem refSum5_is (k : Int) (hz : SzT l) (h : Hid (((sumT l : Nat) : Int) = k)) :
    Calls Try.prog 38 #[.slice A n c] w fun e w' => e = .returned (.int .u64 k) ∧ Below w.heap.size w w' := by
  have := refSumT_calls n c A l w hl hz
  rwa [h.out] at this
theorem May5_is (b : Bool) (hz : SzT l) (h : Hid (mayT l = b)) :
    Calls Try.prog 35 #[.slice A n c] w fun e w' => e = .returned (.bool b) ∧ Below w.heap.size w w' :=
  re_ (MayT_calls n c A l w hl hz) (ret_bool h.out)
theorem refMay5_is (b : Bool) (hz : SzT l) (h : Hid (mayT l = b)) :
    Calls Try.prog 36 #[.slice A n c] w fun e w' => e = .returned (.bool b) ∧ Below w.heap.size w w' :=
  re_ (refMayT_calls n c A l w hl hz) (ret_bool h.out)
theorem few5_is (b : Bool) (hz : ∀ s ∈ l, s.c.size ≤ 9223372036854775807 ∧ s.v.2.2.2.size ≤ 9223372036854775807) (h : Hid (fewT l = b)) :
    Calls Try.prog 31 #[.slice A n c] w fun e w' => e = .returned (.bool b) ∧ Below w.heap.size w w' :=
  re_ (few5_calls n c A l w hl hz) (ret_bool h.out)
theorem Set5_is (q : ByteArray) (on : Bool) (x y z : Int) (t : ByteArray) (r : List Sn) (hn : n ≤ 1000) (h : Hid (setT l ⟨q, on, x, y, z, t⟩ = r)) :
    Calls Try.prog 44 #[.slice A n c, .agg #[.string q, .bool on, .int .i64 x, .int .i64 y, .int .i64 z, .string t]] w fun e w' => ∃ v, e = .returned v ∧ Row enSn 5 w' v r ∧ Below w.heap.size w w' := by
  have := SetT_calls n c A l q on x y z t w hl hn
  rwa [h.out] at this
theorem refSet5_is (q : ByteArray) (on : Bool) (x y z : Int) (t : ByteArray) (r : List Sn) (hn : n ≤ 1000) (h : Hid (setT l ⟨q, on, x, y, z, t⟩ = r)) :
    Calls Try.prog 45 #[.slice A n c, .agg #[.string q, .bool on, .int .i64 x, .int .i64 y, .int .i64 z, .string t]] w fun e w' => ∃ v, e = .returned v ∧ Row enSn 5 w' v r ∧ Below w.heap.size w w' := by
  have := refSetT_calls n c A l q on x y z t w hl hn
  rwa [h.out] at this
theorem Changes5_is (n2 c2 : Nat) (B : Option Addr) (m : List Sn) (hm : Row enSn 5 w (.slice B n2 c2) m) (r : List Ch) (hn : n ≤ 1000) (hn2 : n2 ≤ 1000) (h : Hid (changesT l m = r)) :
    Calls Try.prog 47 #[.slice A n c, .slice B n2 c2] w fun e w' => ∃ v, e = .returned v ∧ Row enCh 6 w' v r ∧ Below w.heap.size w w' := by
  have := ChangesT_calls n c n2 c2 A B l m w hl hm hn hn2
  rwa [h.out] at this
theorem refChanges5_is (n2 c2 : Nat) (B : Option Addr) (m : List Sn) (hm : Row enSn 5 w (.slice B n2 c2) m) (r : List Ch) (hn : n ≤ 1000) (hn2 : n2 ≤ 1000) (h : Hid (changesT l m = r)) :
    Calls Try.prog 48 #[.slice A n c, .slice B n2 c2] w fun e w' => ∃ v, e = .returned v ∧ Row enCh 6 w' v r ∧ Below w.heap.size w w' := by
  have := refChangesT_calls n c n2 c2 A B l m w hl hm hn hn2
  rwa [h.out] at this
theorem Same5_is (n2 c2 : Nat) (B : Option Addr) (m : List Sn) (hm : Row enSn 5 w (.slice B n2 c2) m) (b : Bool) (h : Hid (decide (l = m) = b)) :
    Calls Try.prog 41 #[.slice A n c, .slice B n2 c2] w fun e w' => e = .returned (.bool b) ∧ Below w.heap.size w w' :=
  re_ (sameSn n c n2 c2 A B l m w hl hm) (ret_bool h.out)
end
/-- A row's value as a slice. -/
theorem Row.form5 {α : Type} {enc : α → List Value} {k : Nat} {w : World} {v : Value} {xs : List α} (h : Row enc k w v xs) (n : Nat) (hn : xs.length = n) : ∃ A c, v = .slice A n c := by
  obtain ⟨A, c, e, _⟩ := h
  exact ⟨A, c, by rw [e, hn]⟩
theorem szT_nil : SzT [] := fun s hs => by cases hs
theorem szT_of (l : List Sn) (h : l.all (fun s => decide (s.c.size ≤ 140737488351232) && decide (s.v.2.2.2.size ≤ 140737488351232)) = true) : SzT l := fun s hs => by
  have := List.all_eq_true.1 h s hs
  rw [Bool.and_eq_true, decide_eq_true_eq, decide_eq_true_eq] at this
  exact this
theorem fewT_sz {l : List Sn} (h : fewT l = true) : SzT l ∧ l.length ≤ 40 := by
  unfold fewT at h
  rw [Bool.and_eq_true, List.all_eq_true, decide_eq_true_eq] at h
  refine ⟨fun s hs => ?_, h.1⟩
  have := h.2 s hs
  rw [Bool.and_eq_true, decide_eq_true_eq, decide_eq_true_eq] at this
  omega
abbrev b5E : ByteArray := ⟨#[]⟩
abbrev b5B : ByteArray := ⟨#[98]⟩
abbrev b5A : ByteArray := ⟨#[97, 97]⟩
abbrev b5C : ByteArray := ⟨#[99]⟩
abbrev b5X : ByteArray := ⟨#[120]⟩
abbrev r5B : Sn := ⟨b5B, 4, 0, 5, b5E⟩
abbrev r5A : Sn := ⟨b5A, 4, 0, 5, b5E⟩
abbrev r5C : Sn := ⟨b5C, 4, 0, 5, b5E⟩
abbrev h5C : Ch := ⟨b5C, true, 4, 0, 5, b5E⟩
abbrev s5T : ByteArray := ⟨#[2, 1, 98, 4, 128, 5, 0, 2, 97, 97, 4, 128, 5, 0]⟩
theorem l5a : Hid (putT [r5B, r5A] = (s5T, true)) := by show _ = _; decide +kernel
theorem l5b : Hid (takeT (b5X ++ s5T) 1 = ([r5B, r5A], 15, 0)) := by show _ = _; decide +kernel
theorem l5c : Hid (takeT ⟨#[33]⟩ 0 = ([], 0, 3)) := by show _ = _; decide +kernel
theorem l5d : Hid (setT [r5B, r5A] ⟨b5C, true, 4, 0, 5, b5E⟩ = [r5B, r5C, r5A]) := by show _ = _; decide +kernel
theorem l5e : Hid (setT [r5B, r5A] ⟨b5B, false, 0, 0, 0, b5E⟩ = [r5A]) := by show _ = _; decide +kernel
theorem l5f : Hid (getT [r5B, r5A] b5A = ((4, 0, 5, b5E), true)) := by show _ = _; decide +kernel
theorem l5g : Hid (getT [r5B, r5A] b5C = ((0, 0, 0, b5E), false)) := by show _ = _; decide +kernel
theorem l5h : Hid (changesT [r5B, r5A] [r5B, r5C, r5A] = [h5C]) := by show _ = _; decide +kernel
theorem l5i : Hid (((sumT [] : Nat) : Int) = 12638153115695167455) := by show _ = _; decide +kernel
theorem l5j : Hid (((sumT [r5B, r5A] : Nat) : Int) = 4453172539554908332) := by show _ = _; decide +kernel
theorem l5k : Hid (((sumT [r5A] : Nat) : Int) = 9957174933516939641) := by show _ = _; decide +kernel
theorem l5l : Hid (mayT [r5B, r5A] = true) := by show _ = _; decide +kernel
theorem l5m : Hid (mayT [r5A, r5B] = false) := by show _ = _; decide +kernel
theorem l5n : Hid (decide ([r5B, r5A] = [r5B, r5A]) = true) := by show _ = _; decide +kernel
theorem cells5V {W : World} {g : Nat} {a p n : Int} {t : ByteArray} (h : W.heap[g]? = some (bxV a p n t)) : W.cell? ⟨g, 0, none⟩ = some (.int .i64 a) ∧ W.cell? ⟨g, 1, none⟩ = some (.int .i64 p) ∧ W.cell? ⟨g, 2, none⟩ = some (.int .i64 n) ∧ W.cell? ⟨g, 3, none⟩ = some (.string t) := (vopen h).1
set_option maxHeartbeats 32000000 in
set_option maxRecDepth 100000 in
theorem live05 (w : World) : Calls Try.prog 32 #[] w fun e w' => e = .returned (.bool true) ∧ Below w.heap.size w w' := by
  have D0 := below_alloc0 (below_box (w := w) (bxV 4 0 5 b5E)) (.cells #[.string b5B, .int .i64 4, .int .i64 0, .int .i64 5, .string b5E, .string b5A, .int .i64 4, .int .i64 0, .int .i64 5, .string b5E] 66)
  have k0 : ((w.alloc (bxV 4 0 5 b5E)).alloc (.cells #[.string b5B, .int .i64 4, .int .i64 0, .int .i64 5, .string b5E, .string b5A, .int .i64 4, .int .i64 0, .int .i64 5, .string b5E] 66)).heap[w.heap.size]? = some (bxV 4 0 5 b5E) := halloc (heap_alloc_new w _) _
  have o0 : Own enSn 5 66 ((w.alloc (bxV 4 0 5 b5E)).alloc (.cells #[.string b5B, .int .i64 4, .int .i64 0, .int .i64 5, .string b5E, .string b5A, .int .i64 4, .int .i64 0, .int .i64 5, .string b5E] 66)) 0 (.slice (some ⟨(w.alloc (bxV 4 0 5 b5E)).heap.size, 0, none⟩) 2 2) [r5B, r5A] := Own.lit enSn_len (w.alloc (bxV 4 0 5 b5E)) [r5B, r5A] _ 2 rfl rfl (Nat.zero_le _) (by decide)
  have rt0 := o0.row
  rw [show (w.alloc (bxV 4 0 5 b5E)).heap.size = w.heap.size + 1 from Array.size_push ..] at rt0
  have m0 : (w.alloc (bxV 4 0 5 b5E)).heap[w.heap.size]? = some (bxV 4 0 5 b5E) := heap_alloc_new w _
  obtain ⟨k1, k2, k3, k4⟩ := cells5V m0
  clear o0 m0
  go_enter Try.func32, Try.ntmps32
  go_wp2_with fail
  with_reducible refine (Put5_is 2 2 (some ⟨w.heap.size + 1, 0, none⟩) [r5B, r5A] _ rt0 s5T true (szT_of _ (by decide)) l5a).mono ?_
  rintro e w1 ⟨rfl, b1⟩
  have D1 := below_call D0 b1
  have rt1_ := Row.below rt0 b1
  have k1_ := hcall k0 b1
  clear b1 D0 rt0 k0 k1 k2 k3 k4
  go_wp2_with fail
  with_reducible refine (TakeT_is (b5X ++ s5T) 1 [r5B, r5A] 15 0 _ (by decide) l5b).mono ?_
  rintro e w2 ⟨v2, rfl, r2, b2⟩
  obtain ⟨A2, c2, rfl⟩ := r2.form5 2 rfl
  have D2 := below_call D1 b2
  have rt2_ := Row.below rt1_ b2
  have k2_ := hcall k1_ b2
  clear b2 D1 rt1_ k1_
  have ru := r2
  clear r2
  go_wp2_with fail
  with_reducible refine (TakeT_is ⟨#[33]⟩ 0 [] 0 3 _ (by decide) l5c).mono ?_
  rintro e w3 ⟨v3, rfl, r3, b3⟩
  obtain ⟨A3, c3, rfl⟩ := r3.form5 0 rfl
  have D3 := below_call D2 b3
  have rt3_ := Row.below rt2_ b3
  have ru3_ := Row.below ru b3
  have k3_ := hcall k2_ b3
  clear b3 D2 rt2_ ru k2_
  obtain ⟨k1, k2, k3, k4⟩ := cells5V k3_
  go_wp2_with fail
  with_reducible refine (Set5_is 2 2 (some ⟨w.heap.size + 1, 0, none⟩) [r5B, r5A] _ rt3_ b5C true 4 0 5 b5E _ (by decide) l5d).mono ?_
  rintro e w4 ⟨v4, rfl, r4, b4⟩
  obtain ⟨A4, c4, rfl⟩ := r4.form5 3 rfl
  have D4 := below_call D3 b4
  have rt4_ := Row.below rt3_ b4
  have ru4_ := Row.below ru3_ b4
  have k4_ := hcall k3_ b4
  clear b4 D3 rt3_ ru3_ k3_ k1 k2 k3 k4
  have rw_ := r4
  clear r4
  go_wp2_with fail
  with_reducible refine (Set5_is 2 2 (some ⟨w.heap.size + 1, 0, none⟩) [r5B, r5A] _ rt4_ b5B false 0 0 0 b5E _ (by decide) l5e).mono ?_
  rintro e w5 ⟨v5, rfl, r5, b5⟩
  obtain ⟨A5, c5, rfl⟩ := r5.form5 1 rfl
  have D5 := below_call D4 b5
  have rt5_ := Row.below rt4_ b5
  have ru5_ := Row.below ru4_ b5
  have rw_5_ := Row.below rw_ b5
  have k5_ := hcall k4_ b5
  clear b5 D4 rt4_ ru4_ rw_ k4_
  have rx := r5
  clear r5
  go_wp2_with fail
  with_reducible refine (getT_is 2 2 (some ⟨w.heap.size + 1, 0, none⟩) [r5B, r5A] b5A _ 4 0 5 b5E true rt5_ l5f).mono ?_
  rintro e w6 ⟨rfl, b6⟩
  have D6 := below_call D5 b6
  have rt6_ := Row.below rt5_ b6
  have ru6_ := Row.below ru5_ b6
  have rw_6_ := Row.below rw_5_ b6
  have rx6_ := Row.below rx b6
  have k6_ := hcall k5_ b6
  clear b6 D5 rt5_ ru5_ rw_5_ rx k5_
  have hy := heap_alloc_new w6 (bxV 4 0 5 b5E)
  have Da := below_alloc0 D6 (bxV 4 0 5 b5E)
  have rta := Row.below rt6_ (below_box (bxV 4 0 5 b5E))
  have rua := Row.below ru6_ (below_box (bxV 4 0 5 b5E))
  have rw_a := Row.below rw_6_ (below_box (bxV 4 0 5 b5E))
  have rxa := Row.below rx6_ (below_box (bxV 4 0 5 b5E))
  have ka := halloc k6_ (bxV 4 0 5 b5E)
  clear D6 rt6_ ru6_ rw_6_ rx6_ k6_
  go_wp2_with fail
  with_reducible refine (getT_is 2 2 (some ⟨w.heap.size + 1, 0, none⟩) [r5B, r5A] b5C _ 0 0 0 b5E false rta l5g).mono ?_
  rintro e w7 ⟨rfl, b7⟩
  have D7 := below_call Da b7
  have rt7_ := Row.below rta b7
  have ru7_ := Row.below rua b7
  have rw_7_ := Row.below rw_a b7
  have rx7_ := Row.below rxa b7
  have k7_ := hcall ka b7
  have hy7_ := hcall hy b7
  clear b7 Da rta rua rw_a rxa ka hy
  have hz := heap_alloc_new w7 (bxV 0 0 0 b5E)
  have Da := below_alloc0 D7 (bxV 0 0 0 b5E)
  have rta := Row.below rt7_ (below_box (bxV 0 0 0 b5E))
  have rua := Row.below ru7_ (below_box (bxV 0 0 0 b5E))
  have rw_a := Row.below rw_7_ (below_box (bxV 0 0 0 b5E))
  have rxa := Row.below rx7_ (below_box (bxV 0 0 0 b5E))
  have ka := halloc k7_ (bxV 0 0 0 b5E)
  have hya := halloc hy7_ (bxV 0 0 0 b5E)
  clear D7 rt7_ ru7_ rw_7_ rx7_ k7_ hy7_
  go_wp2_with fail
  with_reducible refine (Changes5_is 2 2 (some ⟨w.heap.size + 1, 0, none⟩) [r5B, r5A] _ rta 3 c4 A4 _ rw_a _ (by decide) (by decide) l5h).mono ?_
  rintro e w8 ⟨v8, rfl, r8, b8⟩
  obtain ⟨A8, c8, rfl⟩ := r8.form5 1 rfl
  have D8 := below_call Da b8
  have rt8_ := Row.below rta b8
  have ru8_ := Row.below rua b8
  have rw_8_ := Row.below rw_a b8
  have rx8_ := Row.below rxa b8
  have k8_ := hcall ka b8
  have hy8_ := hcall hya b8
  have hz8_ := hcall hz b8
  clear b8 Da rta rua rw_a rxa ka hya hz
  have rl := r8
  clear r8
  have D := D8.drew
  have rt : Row enSn 5 w8.drew (.slice (some ⟨w.heap.size + 1, 0, none⟩) 2 2) [r5B, r5A] := rt8_
  have ru : Row enSn 5 w8.drew (.slice A2 2 c2) [r5B, r5A] := ru8_
  obtain ⟨adx, rfl, -⟩ := (rx8_).get enSn_len 0 (by decide)
  obtain ⟨adw, rfl, -⟩ := (rw_8_).get enSn_len 0 (by decide)
  obtain ⟨adl, rfl, -⟩ := rl.get enCh_len 0 (by decide)
  have rx : Row enSn 5 w8.drew (.slice (some adx) 1 c5) [r5A] := rx8_
  obtain ⟨e0, -⟩ := rowsSn rw_8_ 1 (by decide) _ _ _ _ _ rfl
  have n0 : w8.cell? ⟨adw.block, adw.off + 5, none⟩ = some (.string ⟨#[99]⟩) := by simpa [Addr.add] using e0
  obtain ⟨e1, -⟩ := rowsSn rx8_ 0 (by decide) _ _ _ _ _ rfl
  have n1 : w8.cell? adx = some (.string ⟨#[97, 97]⟩) := by simpa [Addr.add] using e1
  obtain ⟨g0, g1, g2, g3, g4, g5⟩ := rowsCh rl 0 (by decide) _ _ _ _ _ _ rfl
  have m0 : w8.cell? adl = some (.string ⟨#[99]⟩) := by simpa [Addr.add] using g0
  have m1 : w8.cell? ⟨adl.block, adl.off + 1, none⟩ = some (.bool true) := by simpa [Addr.add] using g1
  have m2 : w8.cell? ⟨adl.block, adl.off + 2, none⟩ = some (.int .i64 4) := by simpa [Addr.add] using g2
  have m3 : w8.cell? ⟨adl.block, adl.off + 3, none⟩ = some (.int .i64 0) := by simpa [Addr.add] using g3
  have m4 : w8.cell? ⟨adl.block, adl.off + 4, none⟩ = some (.int .i64 5) := by simpa [Addr.add] using g4
  have m5 : w8.cell? ⟨adl.block, adl.off + 5, none⟩ = some (.string ⟨#[]⟩) := by simpa [Addr.add] using g5
  obtain ⟨y0, y1, y2, y3⟩ := cells5V hy8_
  have o0 : w8.cell? ⟨w6.heap.size, 0, none⟩ = some (.int .i64 4) := y0
  have o1 : w8.cell? ⟨w6.heap.size, 1, none⟩ = some (.int .i64 0) := y1
  have o2 : w8.cell? ⟨w6.heap.size, 2, none⟩ = some (.int .i64 5) := y2
  have o3 : w8.cell? ⟨w6.heap.size, 3, none⟩ = some (.string ⟨#[]⟩) := y3
  obtain ⟨k0, k1, k2, k3⟩ := cells5V k8_
  have p0 : w8.cell? ⟨w.heap.size, 0, none⟩ = some (.int .i64 4) := k0
  have p1 : w8.cell? ⟨w.heap.size, 1, none⟩ = some (.int .i64 0) := k1
  have p2 : w8.cell? ⟨w.heap.size, 2, none⟩ = some (.int .i64 5) := k2
  have p3 : w8.cell? ⟨w.heap.size, 3, none⟩ = some (.string ⟨#[]⟩) := k3
  obtain ⟨t0, t1, t2, t3, t4⟩ := rowsSn rt8_ 0 (by decide) _ _ _ _ _ rfl
  have q00 : w8.cell? ⟨w.heap.size + 1, 0, none⟩ = some (.string ⟨#[98]⟩) := by simpa [Addr.add] using t0
  have q01 : w8.cell? ⟨w.heap.size + 1, 1, none⟩ = some (.int .i64 4) := by simpa [Addr.add] using t1
  have q02 : w8.cell? ⟨w.heap.size + 1, 2, none⟩ = some (.int .i64 0) := by simpa [Addr.add] using t2
  have q03 : w8.cell? ⟨w.heap.size + 1, 3, none⟩ = some (.int .i64 5) := by simpa [Addr.add] using t3
  have q04 : w8.cell? ⟨w.heap.size + 1, 4, none⟩ = some (.string ⟨#[]⟩) := by simpa [Addr.add] using t4
  obtain ⟨t0, t1, t2, t3, t4⟩ := rowsSn rt8_ 1 (by decide) _ _ _ _ _ rfl
  have q10 : w8.cell? ⟨w.heap.size + 1, 5, none⟩ = some (.string ⟨#[97, 97]⟩) := by simpa [Addr.add] using t0
  have q11 : w8.cell? ⟨w.heap.size + 1, 6, none⟩ = some (.int .i64 4) := by simpa [Addr.add] using t1
  have q12 : w8.cell? ⟨w.heap.size + 1, 7, none⟩ = some (.int .i64 0) := by simpa [Addr.add] using t2
  have q13 : w8.cell? ⟨w.heap.size + 1, 8, none⟩ = some (.int .i64 5) := by simpa [Addr.add] using t3
  have q14 : w8.cell? ⟨w.heap.size + 1, 9, none⟩ = some (.string ⟨#[]⟩) := by simpa [Addr.add] using t4
  have hcv := eqlVl 4 0 5 ⟨#[]⟩ 4 0 5 ⟨#[]⟩
  rw [eqvVl, decide_eq_true rfl] at hcv
  have hcc := eqlCh ⟨#[99]⟩ true 4 0 5 ⟨#[]⟩ ⟨#[99]⟩ true 4 0 5 ⟨#[]⟩
  rw [eqvCh, decide_eq_true rfl] at hcc
  have rn : ∀ W : World, Row enSn 5 W (.slice none 0 0) [] := fun W => Row.nil _ _ _
  have RN := Lib.hid rn
  clear D8 e0 e1 g0 g1 g2 g3 g4 g5 hy8_ hz8_ k0 k1 k2 k3 k8_ rl rn rt8_ ru8_ rw_8_ rx8_ t0 t1 t2 t3 t4 y0 y1 y2 y3
  go_wp2_with fail
  refine Held.start (ops := opsv) (S := fun w' => w'.cell? ⟨adw.block, adw.off + 5, none⟩ = some (.string ⟨#[99]⟩) ∧ w'.cell? adx = some (.string ⟨#[97, 97]⟩) ∧ w'.cell? adl = some (.string ⟨#[99]⟩) ∧ w'.cell? ⟨adl.block, adl.off + 1, none⟩ = some (.bool true) ∧ w'.cell? ⟨adl.block, adl.off + 2, none⟩ = some (.int .i64 4) ∧ w'.cell? ⟨adl.block, adl.off + 3, none⟩ = some (.int .i64 0) ∧ w'.cell? ⟨adl.block, adl.off + 4, none⟩ = some (.int .i64 5) ∧ w'.cell? ⟨adl.block, adl.off + 5, none⟩ = some (.string ⟨#[]⟩) ∧ w'.cell? ⟨w6.heap.size, 0, none⟩ = some (.int .i64 4) ∧ w'.cell? ⟨w6.heap.size, 1, none⟩ = some (.int .i64 0) ∧ w'.cell? ⟨w6.heap.size, 2, none⟩ = some (.int .i64 5) ∧ w'.cell? ⟨w6.heap.size, 3, none⟩ = some (.string ⟨#[]⟩) ∧ w'.cell? ⟨w.heap.size, 0, none⟩ = some (.int .i64 4) ∧ w'.cell? ⟨w.heap.size, 1, none⟩ = some (.int .i64 0) ∧ w'.cell? ⟨w.heap.size, 2, none⟩ = some (.int .i64 5) ∧ w'.cell? ⟨w.heap.size, 3, none⟩ = some (.string ⟨#[]⟩) ∧ w'.cell? ⟨w.heap.size + 1, 0, none⟩ = some (.string ⟨#[98]⟩) ∧ w'.cell? ⟨w.heap.size + 1, 1, none⟩ = some (.int .i64 4) ∧ w'.cell? ⟨w.heap.size + 1, 2, none⟩ = some (.int .i64 0) ∧ w'.cell? ⟨w.heap.size + 1, 3, none⟩ = some (.int .i64 5) ∧ w'.cell? ⟨w.heap.size + 1, 4, none⟩ = some (.string ⟨#[]⟩) ∧ w'.cell? ⟨w.heap.size + 1, 5, none⟩ = some (.string ⟨#[97, 97]⟩) ∧ w'.cell? ⟨w.heap.size + 1, 6, none⟩ = some (.int .i64 4) ∧ w'.cell? ⟨w.heap.size + 1, 7, none⟩ = some (.int .i64 0) ∧ w'.cell? ⟨w.heap.size + 1, 8, none⟩ = some (.int .i64 5) ∧ w'.cell? ⟨w.heap.size + 1, 9, none⟩ = some (.string ⟨#[]⟩)) ordv 101 (by kernel_rfl) sizv (by kernel_rfl) ⟨n0, n1, m0, m1, m2, m3, m4, m5, o0, o1, o2, o3, p0, p1, p2, p3, q00, q01, q02, q03, q04, q10, q11, q12, q13, q14⟩ (fun hHeld => ?_)
  refine Held.take (k := 0) (i := 0) (v := ?vv0) nosv okkv_0 sizv (by kernel_rfl) rfl (fun _ _ _ h => h) (Or.inl ⟨by kernel_rfl, ?hyv0⟩) (by assumption) ?restv0
  case hyv0 => (intro w hSw; (try dsimp only at hSw); go_simp; (try (first | with_reducible rfl | rw [if_neg (by omega)])))
  try simp only [Act.put, List.getElem_toArray, List.getElem_cons_succ, List.getElem_cons_zero, List.setIfInBounds_toArray, List.set_cons_zero, List.set_cons_succ]
  refine Held.take (k := 1) (i := 1) (v := ?vv1) nosv okkv_1 sizv (by kernel_rfl) rfl (fun _ _ _ h => h) (Or.inl ⟨by kernel_rfl, ?hyv1⟩) (by assumption) ?restv1
  case hyv1 => (intro w hSw; (try dsimp only at hSw); go_simp; (try (first | with_reducible rfl | rw [if_neg (by omega)])))
  try simp only [Act.put, List.getElem_toArray, List.getElem_cons_succ, List.getElem_cons_zero, List.setIfInBounds_toArray, List.set_cons_zero, List.set_cons_succ]
  refine Held.take (k := 2) (i := 2) (v := ?vv2) nosv okkv_2 sizv (by kernel_rfl) rfl (fun _ _ _ h => h) (Or.inl ⟨by kernel_rfl, ?hyv2⟩) (by assumption) ?restv2
  case hyv2 => (intro w hSw; (try dsimp only at hSw); go_simp; (try (first | with_reducible rfl | rw [if_neg (by omega)])))
  try simp only [Act.put, List.getElem_toArray, List.getElem_cons_succ, List.getElem_cons_zero, List.setIfInBounds_toArray, List.set_cons_zero, List.set_cons_succ]
  refine Held.take (k := 3) (i := 3) (v := ?vv3) nosv okkv_3 sizv (by kernel_rfl) rfl (fun _ _ _ h => h) (Or.inl ⟨by kernel_rfl, ?hyv3⟩) (by assumption) ?restv3
  case hyv3 => (intro w hSw; (try dsimp only at hSw); go_simp; (try (first | with_reducible rfl | rw [if_neg (by omega)])))
  try simp only [Act.put, List.getElem_toArray, List.getElem_cons_succ, List.getElem_cons_zero, List.setIfInBounds_toArray, List.set_cons_zero, List.set_cons_succ]
  refine Held.take (k := 4) (i := 4) (v := ?vv4) nosv okkv_4 sizv (by kernel_rfl) rfl (fun _ _ _ h => h) (Or.inl ⟨by kernel_rfl, ?hyv4⟩) (by assumption) ?restv4
  case hyv4 => (intro w hSw; (try dsimp only at hSw); go_simp; (try (first | with_reducible rfl | rw [if_neg (by omega)])))
  try simp only [Act.put, List.getElem_toArray, List.getElem_cons_succ, List.getElem_cons_zero, List.setIfInBounds_toArray, List.set_cons_zero, List.set_cons_succ]
  refine Held.take (k := 5) (i := 5) (v := ?vv5) nosv okkv_5 sizv (by kernel_rfl) rfl (fun _ _ _ h => h) (Or.inl ⟨by kernel_rfl, ?hyv5⟩) (by assumption) ?restv5
  case hyv5 => (intro w hSw; (try dsimp only at hSw); go_simp; (try (first | with_reducible rfl | rw [if_neg (by omega)])))
  try simp only [Act.put, List.getElem_toArray, List.getElem_cons_succ, List.getElem_cons_zero, List.setIfInBounds_toArray, List.set_cons_zero, List.set_cons_succ]
  refine Held.take (k := 6) (i := 6) (v := ?vv6) nosv okkv_6 sizv (by kernel_rfl) rfl (fun _ _ _ h => h) (Or.inl ⟨by kernel_rfl, ?hyv6⟩) (by assumption) ?restv6
  case hyv6 => (intro w hSw; (try dsimp only at hSw); go_simp; (try (first | with_reducible rfl | rw [if_neg (by omega)])))
  try simp only [Act.put, List.getElem_toArray, List.getElem_cons_succ, List.getElem_cons_zero, List.setIfInBounds_toArray, List.set_cons_zero, List.set_cons_succ]
  refine Held.take (k := 7) (i := 7) (v := ?vv7) nosv okkv_7 sizv (by kernel_rfl) rfl (fun _ _ _ h => h) (Or.inl ⟨by kernel_rfl, ?hyv7⟩) (by assumption) ?restv7
  case hyv7 => (intro w hSw; (try dsimp only at hSw); go_simp; (try (first | with_reducible rfl | rw [if_neg (by omega)])))
  try simp only [Act.put, List.getElem_toArray, List.getElem_cons_succ, List.getElem_cons_zero, List.setIfInBounds_toArray, List.set_cons_zero, List.set_cons_succ]
  refine Held.only (k := 8) (i := 8) rdyv_8 (by kernel_rfl) rfl (by kernel_rfl) (fun K hK => ?_)
  go_simp
  go_at_call 41
  with_reducible refine (Same5_is 2 2 (some ⟨w.heap.size + 1, 0, none⟩) [r5B, r5A] _ rt 2 c2 A2 [r5B, r5A] ru true l5n).mono ?_
  rintro e wa ⟨rfl, hbx⟩
  replace n0 := cell_below hbx n0
  replace n1 := cell_below hbx n1
  replace m0 := cell_below hbx m0
  replace m1 := cell_below hbx m1
  replace m2 := cell_below hbx m2
  replace m3 := cell_below hbx m3
  replace m4 := cell_below hbx m4
  replace m5 := cell_below hbx m5
  replace o0 := cell_below hbx o0
  replace o1 := cell_below hbx o1
  replace o2 := cell_below hbx o2
  replace o3 := cell_below hbx o3
  replace p0 := cell_below hbx p0
  replace p1 := cell_below hbx p1
  replace p2 := cell_below hbx p2
  replace p3 := cell_below hbx p3
  replace q00 := cell_below hbx q00
  replace q01 := cell_below hbx q01
  replace q02 := cell_below hbx q02
  replace q03 := cell_below hbx q03
  replace q04 := cell_below hbx q04
  replace q10 := cell_below hbx q10
  replace q11 := cell_below hbx q11
  replace q12 := cell_below hbx q12
  replace q13 := cell_below hbx q13
  replace q14 := cell_below hbx q14
  replace rt := rt.below hbx
  replace rx := rx.below hbx
  replace D := below_call D hbx
  clear ru
  refine hK.out _ _ (by (try dsimp only); (exact ⟨n0, n1, m0, m1, m2, m3, m4, m5, o0, o1, o2, o3, p0, p1, p2, p3, q00, q01, q02, q03, q04, q10, q11, q12, q13, q14⟩)) (fun hHeld => ?_)
  clear hK K
  try simp only [Act.put, List.getElem_toArray, List.getElem_cons_succ, List.getElem_cons_zero, List.setIfInBounds_toArray, List.set_cons_zero, List.set_cons_succ]
  refine Held.take (k := 9) (i := 9) (v := ?vv9) nosv okkv_9 sizv (by kernel_rfl) rfl (fun _ _ _ h => h) (Or.inl ⟨by kernel_rfl, ?hyv9⟩) (by assumption) ?restv9
  case hyv9 => (intro w hSw; (try dsimp only at hSw); go_simp; (try (first | with_reducible rfl | rw [if_neg (by omega)])))
  try simp only [Act.put, List.getElem_toArray, List.getElem_cons_succ, List.getElem_cons_zero, List.setIfInBounds_toArray, List.set_cons_zero, List.set_cons_succ]
  refine Held.take (k := 10) (i := 10) (v := ?vv10) nosv okkv_10 sizv (by kernel_rfl) rfl (fun _ _ _ h => h) (Or.inl ⟨by kernel_rfl, ?hyv10⟩) (by assumption) ?restv10
  case hyv10 => (intro w hSw; (try dsimp only at hSw); go_simp; (try (first | with_reducible rfl | rw [if_neg (by omega)])))
  try simp only [Act.put, List.getElem_toArray, List.getElem_cons_succ, List.getElem_cons_zero, List.setIfInBounds_toArray, List.set_cons_zero, List.set_cons_succ]
  refine Held.take (k := 11) (i := 11) (v := ?vv11) nosv okkv_11 sizv (by kernel_rfl) rfl (fun _ _ _ h => h) (Or.inl ⟨by kernel_rfl, ?hyv11⟩) (by assumption) ?restv11
  case hyv11 => (intro w hSw; (try dsimp only at hSw); go_simp; (try (first | with_reducible rfl | rw [if_neg (by omega)])))
  try simp only [Act.put, List.getElem_toArray, List.getElem_cons_succ, List.getElem_cons_zero, List.setIfInBounds_toArray, List.set_cons_zero, List.set_cons_succ]
  refine Held.take (k := 12) (i := 12) (v := ?vv12) nosv okkv_12 sizv (by kernel_rfl) rfl (fun _ _ _ h => h) (Or.inl ⟨by kernel_rfl, ?hyv12⟩) (by assumption) ?restv12
  case hyv12 => (intro w hSw; (try dsimp only at hSw); go_simp; (try (first | with_reducible rfl | rw [if_neg (by omega)])))
  try simp only [Act.put, List.getElem_toArray, List.getElem_cons_succ, List.getElem_cons_zero, List.setIfInBounds_toArray, List.set_cons_zero, List.set_cons_succ]
  refine Held.take (k := 13) (i := 13) (v := ?vv13) nosv okkv_13 sizv (by kernel_rfl) rfl (fun _ _ _ h => h) (Or.inl ⟨by kernel_rfl, ?hyv13⟩) (by assumption) ?restv13
  case hyv13 => (intro w hSw; (try dsimp only at hSw); go_simp; (try (first | with_reducible rfl | rw [if_neg (by omega)])))
  try simp only [Act.put, List.getElem_toArray, List.getElem_cons_succ, List.getElem_cons_zero, List.setIfInBounds_toArray, List.set_cons_zero, List.set_cons_succ]
  refine Held.take (k := 14) (i := 14) (v := ?vv14) nosv okkv_14 sizv (by kernel_rfl) rfl (fun _ _ _ h => h) (Or.inl ⟨by kernel_rfl, ?hyv14⟩) (by assumption) ?restv14
  case hyv14 => (intro w hSw; (try dsimp only at hSw); go_simp; (try (first | with_reducible rfl | rw [if_neg (by omega)])))
  try simp only [Act.put, List.getElem_toArray, List.getElem_cons_succ, List.getElem_cons_zero, List.setIfInBounds_toArray, List.set_cons_zero, List.set_cons_succ]
  refine Held.take (k := 15) (i := 15) (v := ?vv15) nosv okkv_15 sizv (by kernel_rfl) rfl (fun _ _ _ h => h) (Or.inl ⟨by kernel_rfl, ?hyv15⟩) (by assumption) ?restv15
  case hyv15 => (intro w hSw; (try dsimp only at hSw); go_simp; (try (first | with_reducible rfl | rw [if_neg (by omega)])))
  try simp only [Act.put, List.getElem_toArray, List.getElem_cons_succ, List.getElem_cons_zero, List.setIfInBounds_toArray, List.set_cons_zero, List.set_cons_succ]
  refine Held.take (k := 16) (i := 16) (v := ?vv16) nosv okkv_16 sizv (by kernel_rfl) rfl (fun _ _ _ h => h) (Or.inl ⟨by kernel_rfl, ?hyv16⟩) (by assumption) ?restv16
  case hyv16 => (intro w hSw; (try dsimp only at hSw); go_simp; (try (first | with_reducible rfl | rw [if_neg (by omega)])))
  try simp only [Act.put, List.getElem_toArray, List.getElem_cons_succ, List.getElem_cons_zero, List.setIfInBounds_toArray, List.set_cons_zero, List.set_cons_succ]
  refine Held.take (k := 17) (i := 17) (v := ?vv17) nosv okkv_17 sizv (by kernel_rfl) rfl (fun _ _ _ h => h) (Or.inl ⟨by kernel_rfl, ?hyv17⟩) (by assumption) ?restv17
  case hyv17 => (intro w hSw; (try dsimp only at hSw); go_simp; (try (first | with_reducible rfl | rw [if_neg (by omega)])))
  try simp only [Act.put, List.getElem_toArray, List.getElem_cons_succ, List.getElem_cons_zero, List.setIfInBounds_toArray, List.set_cons_zero, List.set_cons_succ]
  refine Held.take (k := 18) (i := 18) (v := ?vv18) nosv okkv_18 sizv (by kernel_rfl) rfl (fun _ _ _ h => h) (Or.inl ⟨by kernel_rfl, ?hyv18⟩) (by assumption) ?restv18
  case hyv18 => (intro w hSw; (try dsimp only at hSw); go_simp; (try (first | with_reducible rfl | rw [if_neg (by omega)])))
  try simp only [Act.put, List.getElem_toArray, List.getElem_cons_succ, List.getElem_cons_zero, List.setIfInBounds_toArray, List.set_cons_zero, List.set_cons_succ]
  refine Held.take (k := 19) (i := 19) (v := ?vv19) nosv okkv_19 sizv (by kernel_rfl) rfl (fun _ _ _ h => h) (Or.inl ⟨by kernel_rfl, ?hyv19⟩) (by assumption) ?restv19
  case hyv19 => (intro w hSw; (try dsimp only at hSw); go_simp; (try (first | with_reducible rfl | rw [if_neg (by omega)])))
  try simp only [Act.put, List.getElem_toArray, List.getElem_cons_succ, List.getElem_cons_zero, List.setIfInBounds_toArray, List.set_cons_zero, List.set_cons_succ]
  refine Held.take (k := 20) (i := 20) (v := ?vv20) nosv okkv_20 sizv (by kernel_rfl) rfl (fun _ _ _ h => h) (Or.inl ⟨by kernel_rfl, ?hyv20⟩) (by assumption) ?restv20
  case hyv20 => (intro w hSw; (try dsimp only at hSw); go_simp; (try (first | with_reducible rfl | rw [if_neg (by omega)])))
  try simp only [Act.put, List.getElem_toArray, List.getElem_cons_succ, List.getElem_cons_zero, List.setIfInBounds_toArray, List.set_cons_zero, List.set_cons_succ]
  refine Held.take (k := 21) (i := 21) (v := ?vv21) nosv okkv_21 sizv (by kernel_rfl) rfl (fun _ _ _ h => h) (Or.inl ⟨by kernel_rfl, ?hyv21⟩) (by assumption) ?restv21
  case hyv21 => (intro w hSw; (try dsimp only at hSw); go_simp; (try (first | with_reducible rfl | rw [if_neg (by omega)])))
  try simp only [Act.put, List.getElem_toArray, List.getElem_cons_succ, List.getElem_cons_zero, List.setIfInBounds_toArray, List.set_cons_zero, List.set_cons_succ]
  refine Held.take (k := 22) (i := 22) (v := ?vv22) nosv okkv_22 sizv (by kernel_rfl) rfl (fun _ _ _ h => h) (Or.inl ⟨by kernel_rfl, ?hyv22⟩) (by assumption) ?restv22
  case hyv22 => (intro w hSw; (try dsimp only at hSw); go_simp; (try (first | with_reducible rfl | rw [if_neg (by omega)])))
  try simp only [Act.put, List.getElem_toArray, List.getElem_cons_succ, List.getElem_cons_zero, List.setIfInBounds_toArray, List.set_cons_zero, List.set_cons_succ]
  refine Held.take (k := 23) (i := 23) (v := ?vv23) nosv okkv_23 sizv (by kernel_rfl) rfl (fun _ _ _ h => h) (Or.inl ⟨by kernel_rfl, ?hyv23⟩) (by assumption) ?restv23
  case hyv23 => (intro w hSw; (try dsimp only at hSw); go_simp; (try (first | with_reducible rfl | rw [if_neg (by omega)])))
  try simp only [Act.put, List.getElem_toArray, List.getElem_cons_succ, List.getElem_cons_zero, List.setIfInBounds_toArray, List.set_cons_zero, List.set_cons_succ]
  refine Held.take (k := 24) (i := 24) (v := ?vv24) nosv okkv_24 sizv (by kernel_rfl) rfl (fun _ _ _ h => h) (Or.inl ⟨by kernel_rfl, ?hyv24⟩) (by assumption) ?restv24
  case hyv24 => (intro w hSw; (try dsimp only at hSw); go_simp; (try (first | with_reducible rfl | rw [if_neg (by omega)])))
  try simp only [Act.put, List.getElem_toArray, List.getElem_cons_succ, List.getElem_cons_zero, List.setIfInBounds_toArray, List.set_cons_zero, List.set_cons_succ]
  refine Held.take (k := 25) (i := 25) (v := ?vv25) nosv okkv_25 sizv (by kernel_rfl) rfl (fun _ _ _ h => h) (Or.inl ⟨by kernel_rfl, ?hyv25⟩) (by assumption) ?restv25
  case hyv25 => (intro w hSw; (try dsimp only at hSw); go_simp; (try (first | with_reducible rfl | rw [if_neg (by omega)])))
  try simp only [Act.put, List.getElem_toArray, List.getElem_cons_succ, List.getElem_cons_zero, List.setIfInBounds_toArray, List.set_cons_zero, List.set_cons_succ]
  refine Held.take (k := 26) (i := 26) (v := ?vv26) nosv okkv_26 sizv (by kernel_rfl) rfl (fun _ _ _ h => h) (Or.inl ⟨by kernel_rfl, ?hyv26⟩) (by assumption) ?restv26
  case hyv26 => (intro w hSw; (try dsimp only at hSw); go_simp; (try (first | with_reducible rfl | rw [if_neg (by omega)])))
  try simp only [Act.put, List.getElem_toArray, List.getElem_cons_succ, List.getElem_cons_zero, List.setIfInBounds_toArray, List.set_cons_zero, List.set_cons_succ]
  refine Held.take (k := 27) (i := 27) (v := ?vv27) nosv okkv_27 sizv (by kernel_rfl) rfl (fun _ _ _ h => h) (Or.inl ⟨by kernel_rfl, ?hyv27⟩) (by assumption) ?restv27
  case hyv27 => (intro w hSw; (try dsimp only at hSw); go_simp; (try (first | with_reducible rfl | rw [if_neg (by omega)])))
  try simp only [Act.put, List.getElem_toArray, List.getElem_cons_succ, List.getElem_cons_zero, List.setIfInBounds_toArray, List.set_cons_zero, List.set_cons_succ]
  refine Held.take (k := 28) (i := 28) (v := ?vv28) nosv okkv_28 sizv (by kernel_rfl) rfl (fun _ _ _ h => h) (Or.inl ⟨by kernel_rfl, ?hyv28⟩) (by assumption) ?restv28
  case hyv28 => (intro w hSw; (try dsimp only at hSw); go_simp; (try (first | with_reducible rfl | rw [if_neg (by omega)])))
  try simp only [Act.put, List.getElem_toArray, List.getElem_cons_succ, List.getElem_cons_zero, List.setIfInBounds_toArray, List.set_cons_zero, List.set_cons_succ]
  refine Held.take (k := 29) (i := 29) (v := ?vv29) nosv okkv_29 sizv (by kernel_rfl) rfl (fun _ _ _ h => h) (Or.inl ⟨by kernel_rfl, ?hyv29⟩) (by assumption) ?restv29
  case hyv29 => (intro w hSw; (try dsimp only at hSw); go_simp; (try (first | with_reducible rfl | rw [if_neg (by omega)])))
  try simp only [Act.put, List.getElem_toArray, List.getElem_cons_succ, List.getElem_cons_zero, List.setIfInBounds_toArray, List.set_cons_zero, List.set_cons_succ]
  refine Held.take (k := 30) (i := 30) (v := ?vv30) nosv okkv_30 sizv (by kernel_rfl) rfl (fun _ _ _ h => h) (Or.inl ⟨by kernel_rfl, ?hyv30⟩) (by assumption) ?restv30
  case hyv30 => (intro w hSw; (try dsimp only at hSw); go_simp; (try (first | with_reducible rfl | rw [if_neg (by omega)])))
  try simp only [Act.put, List.getElem_toArray, List.getElem_cons_succ, List.getElem_cons_zero, List.setIfInBounds_toArray, List.set_cons_zero, List.set_cons_succ]
  refine Held.take (k := 31) (i := 31) (v := ?vv31) nosv okkv_31 sizv (by kernel_rfl) rfl (fun _ _ _ h => h) (Or.inl ⟨by kernel_rfl, ?hyv31⟩) (by assumption) ?restv31
  case hyv31 => (intro w hSw; (try dsimp only at hSw); go_simp; (try (first | with_reducible rfl | rw [if_neg (by omega)])))
  try simp only [Act.put, List.getElem_toArray, List.getElem_cons_succ, List.getElem_cons_zero, List.setIfInBounds_toArray, List.set_cons_zero, List.set_cons_succ]
  refine Held.take (k := 32) (i := 32) (v := ?vv32) nosv okkv_32 sizv (by kernel_rfl) rfl (fun _ _ _ h => h) (Or.inl ⟨by kernel_rfl, ?hyv32⟩) (by assumption) ?restv32
  case hyv32 => (intro w hSw; (try dsimp only at hSw); go_simp; (try (first | with_reducible rfl | rw [if_neg (by omega)])))
  try simp only [Act.put, List.getElem_toArray, List.getElem_cons_succ, List.getElem_cons_zero, List.setIfInBounds_toArray, List.set_cons_zero, List.set_cons_succ]
  refine Held.take (k := 33) (i := 33) (v := ?vv33) nosv okkv_33 sizv (by kernel_rfl) rfl (fun _ _ _ h => h) (Or.inl ⟨by kernel_rfl, ?hyv33⟩) (by assumption) ?restv33
  case hyv33 => (intro w hSw; (try dsimp only at hSw); go_simp; (try (first | with_reducible rfl | rw [if_neg (by omega)])))
  try simp only [Act.put, List.getElem_toArray, List.getElem_cons_succ, List.getElem_cons_zero, List.setIfInBounds_toArray, List.set_cons_zero, List.set_cons_succ]
  refine Held.take (k := 34) (i := 34) (v := ?vv34) nosv okkv_34 sizv (by kernel_rfl) rfl (fun _ _ _ h => h) (Or.inl ⟨by kernel_rfl, ?hyv34⟩) (by assumption) ?restv34
  case hyv34 => (intro w hSw; (try dsimp only at hSw); go_simp; (try (first | with_reducible rfl | rw [if_neg (by omega)])))
  try simp only [Act.put, List.getElem_toArray, List.getElem_cons_succ, List.getElem_cons_zero, List.setIfInBounds_toArray, List.set_cons_zero, List.set_cons_succ]
  refine Held.take (k := 35) (i := 35) (v := ?vv35) nosv okkv_35 sizv (by kernel_rfl) rfl (fun _ _ _ h => h) (Or.inl ⟨by kernel_rfl, ?hyv35⟩) (by assumption) ?restv35
  case hyv35 => (intro w hSw; (try dsimp only at hSw); go_simp; (try (first | with_reducible rfl | rw [if_neg (by omega)])))
  try simp only [Act.put, List.getElem_toArray, List.getElem_cons_succ, List.getElem_cons_zero, List.setIfInBounds_toArray, List.set_cons_zero, List.set_cons_succ]
  refine Held.take (k := 36) (i := 36) (v := ?vv36) nosv okkv_36 sizv (by kernel_rfl) rfl (fun _ _ _ h => h) (Or.inl ⟨by kernel_rfl, ?hyv36⟩) (by assumption) ?restv36
  case hyv36 => (intro w hSw; (try dsimp only at hSw); go_simp; (try (first | with_reducible rfl | rw [if_neg (by omega)])))
  try simp only [Act.put, List.getElem_toArray, List.getElem_cons_succ, List.getElem_cons_zero, List.setIfInBounds_toArray, List.set_cons_zero, List.set_cons_succ]
  refine Held.take (k := 37) (i := 37) (v := ?vv37) nosv okkv_37 sizv (by kernel_rfl) rfl (fun _ _ _ h => h) (Or.inl ⟨by kernel_rfl, ?hyv37⟩) (by assumption) ?restv37
  case hyv37 => (intro w hSw; (try dsimp only at hSw); go_simp; (try (first | with_reducible rfl | rw [if_neg (by omega)])))
  try simp only [Act.put, List.getElem_toArray, List.getElem_cons_succ, List.getElem_cons_zero, List.setIfInBounds_toArray, List.set_cons_zero, List.set_cons_succ]
  refine Held.take (k := 38) (i := 38) (v := ?vv38) nosv okkv_38 sizv (by kernel_rfl) rfl (fun _ _ _ h => h) (Or.inl ⟨by kernel_rfl, ?hyv38⟩) (by assumption) ?restv38
  case hyv38 => (intro w hSw; (try dsimp only at hSw); go_simp; (try (first | with_reducible rfl | rw [if_neg (by omega)])))
  try simp only [Act.put, List.getElem_toArray, List.getElem_cons_succ, List.getElem_cons_zero, List.setIfInBounds_toArray, List.set_cons_zero, List.set_cons_succ]
  refine Held.take (k := 39) (i := 39) (v := ?vv39) nosv okkv_39 sizv (by kernel_rfl) rfl (fun _ _ _ h => h) (Or.inl ⟨by kernel_rfl, ?hyv39⟩) (by assumption) ?restv39
  case hyv39 => (intro w hSw; (try dsimp only at hSw); go_simp; (try (first | with_reducible rfl | rw [if_neg (by omega)])))
  try simp only [Act.put, List.getElem_toArray, List.getElem_cons_succ, List.getElem_cons_zero, List.setIfInBounds_toArray, List.set_cons_zero, List.set_cons_succ]
  refine Held.take (k := 40) (i := 40) (v := ?vv40) nosv okkv_40 sizv (by kernel_rfl) rfl (fun _ _ _ h => h) (Or.inl ⟨by kernel_rfl, ?hyv40⟩) (by assumption) ?restv40
  case hyv40 => (intro w hSw; (try dsimp only at hSw); go_simp; (try (first | with_reducible rfl | rw [if_neg (by omega)])))
  try simp only [Act.put, List.getElem_toArray, List.getElem_cons_succ, List.getElem_cons_zero, List.setIfInBounds_toArray, List.set_cons_zero, List.set_cons_succ]
  refine Held.take (k := 41) (i := 41) (v := ?vv41) nosv okkv_41 sizv (by kernel_rfl) rfl (fun _ _ _ h => h) (Or.inl ⟨by kernel_rfl, ?hyv41⟩) (by assumption) ?restv41
  case hyv41 => (intro w hSw; (try dsimp only at hSw); go_simp; (try (first | with_reducible rfl | rw [if_neg (by omega)])))
  try simp only [Act.put, List.getElem_toArray, List.getElem_cons_succ, List.getElem_cons_zero, List.setIfInBounds_toArray, List.set_cons_zero, List.set_cons_succ]
  refine Held.take (k := 42) (i := 42) (v := ?vv42) nosv okkv_42 sizv (by kernel_rfl) rfl (fun _ _ _ h => h) (Or.inl ⟨by kernel_rfl, ?hyv42⟩) (by assumption) ?restv42
  case hyv42 => (intro w hSw; (try dsimp only at hSw); go_simp; (try (first | with_reducible rfl | rw [if_neg (by omega)])))
  try simp only [Act.put, List.getElem_toArray, List.getElem_cons_succ, List.getElem_cons_zero, List.setIfInBounds_toArray, List.set_cons_zero, List.set_cons_succ]
  refine Held.take (k := 43) (i := 43) (v := ?vv43) nosv okkv_43 sizv (by kernel_rfl) rfl (fun _ _ _ h => h) (Or.inl ⟨by kernel_rfl, ?hyv43⟩) (by assumption) ?restv43
  case hyv43 => (intro w hSw; (try dsimp only at hSw); go_simp; (try (first | with_reducible rfl | rw [if_neg (by omega)])))
  try simp only [Act.put, List.getElem_toArray, List.getElem_cons_succ, List.getElem_cons_zero, List.setIfInBounds_toArray, List.set_cons_zero, List.set_cons_succ]
  refine Held.take (k := 44) (i := 44) (v := ?vv44) nosv okkv_44 sizv (by kernel_rfl) rfl (fun _ _ _ h => h) (Or.inl ⟨by kernel_rfl, ?hyv44⟩) (by assumption) ?restv44
  case hyv44 => (intro w hSw; (try dsimp only at hSw); go_simp; (try (first | with_reducible rfl | rw [if_neg (by omega)])))
  try simp only [Act.put, List.getElem_toArray, List.getElem_cons_succ, List.getElem_cons_zero, List.setIfInBounds_toArray, List.set_cons_zero, List.set_cons_succ]
  refine Held.take (k := 45) (i := 45) (v := ?vv45) nosv okkv_45 sizv (by kernel_rfl) rfl (fun _ _ _ h => h) (Or.inl ⟨by kernel_rfl, ?hyv45⟩) (by assumption) ?restv45
  case hyv45 => (intro w hSw; (try dsimp only at hSw); go_simp; (try (first | with_reducible rfl | rw [if_neg (by omega)])))
  try simp only [Act.put, List.getElem_toArray, List.getElem_cons_succ, List.getElem_cons_zero, List.setIfInBounds_toArray, List.set_cons_zero, List.set_cons_succ]
  refine Held.take (k := 46) (i := 46) (v := ?vv46) nosv okkv_46 sizv (by kernel_rfl) rfl (fun _ _ _ h => h) (Or.inl ⟨by kernel_rfl, ?hyv46⟩) (by assumption) ?restv46
  case hyv46 => (intro w hSw; (try dsimp only at hSw); go_simp; (try (first | with_reducible rfl | rw [if_neg (by omega)])))
  try simp only [Act.put, List.getElem_toArray, List.getElem_cons_succ, List.getElem_cons_zero, List.setIfInBounds_toArray, List.set_cons_zero, List.set_cons_succ]
  refine Held.take (k := 47) (i := 47) (v := ?vv47) nosv okkv_47 sizv (by kernel_rfl) rfl (fun _ _ _ h => h) (Or.inl ⟨by kernel_rfl, ?hyv47⟩) (by assumption) ?restv47
  case hyv47 => (intro w hSw; (try dsimp only at hSw); go_simp; (try (first | with_reducible rfl | rw [if_neg (by omega)])))
  try simp only [Act.put, List.getElem_toArray, List.getElem_cons_succ, List.getElem_cons_zero, List.setIfInBounds_toArray, List.set_cons_zero, List.set_cons_succ]
  refine Held.take (k := 48) (i := 48) (v := ?vv48) nosv okkv_48 sizv (by kernel_rfl) rfl (fun _ _ _ h => h) (Or.inl ⟨by kernel_rfl, ?hyv48⟩) (by assumption) ?restv48
  case hyv48 => (intro w hSw; (try dsimp only at hSw); go_simp; (try (first | with_reducible rfl | rw [if_neg (by omega)])))
  try simp only [Act.put, List.getElem_toArray, List.getElem_cons_succ, List.getElem_cons_zero, List.setIfInBounds_toArray, List.set_cons_zero, List.set_cons_succ]
  refine Held.take (k := 49) (i := 49) (v := ?vv49) nosv okkv_49 sizv (by kernel_rfl) rfl (fun _ _ _ h => h) (Or.inl ⟨by kernel_rfl, ?hyv49⟩) (by assumption) ?restv49
  case hyv49 => (intro w hSw; (try dsimp only at hSw); go_simp; (try (first | with_reducible rfl | rw [if_neg (by omega)])))
  try simp only [Act.put, List.getElem_toArray, List.getElem_cons_succ, List.getElem_cons_zero, List.setIfInBounds_toArray, List.set_cons_zero, List.set_cons_succ]
  refine Held.take (k := 50) (i := 50) (v := ?vv50) nosv okkv_50 sizv (by kernel_rfl) rfl (fun _ _ _ h => h) (Or.inl ⟨by kernel_rfl, ?hyv50⟩) (by assumption) ?restv50
  case hyv50 => (intro w hSw; (try dsimp only at hSw); go_simp; (try (first | with_reducible rfl | rw [if_neg (by omega)])))
  try simp only [Act.put, List.getElem_toArray, List.getElem_cons_succ, List.getElem_cons_zero, List.setIfInBounds_toArray, List.set_cons_zero, List.set_cons_succ]
  refine Held.take (k := 51) (i := 51) (v := ?vv51) nosv okkv_51 sizv (by kernel_rfl) rfl (fun _ _ _ h => h) (Or.inl ⟨by kernel_rfl, ?hyv51⟩) (by assumption) ?restv51
  case hyv51 => (intro w hSw; (try dsimp only at hSw); go_simp; (try (first | with_reducible rfl | rw [if_neg (by omega)])))
  try simp only [Act.put, List.getElem_toArray, List.getElem_cons_succ, List.getElem_cons_zero, List.setIfInBounds_toArray, List.set_cons_zero, List.set_cons_succ]
  refine Held.take (k := 52) (i := 52) (v := ?vv52) nosv okkv_52 sizv (by kernel_rfl) rfl (fun _ _ _ h => h) (Or.inl ⟨by kernel_rfl, ?hyv52⟩) (by assumption) ?restv52
  case hyv52 => (intro w hSw; (try dsimp only at hSw); go_simp; (try (first | with_reducible rfl | rw [if_neg (by omega)])))
  try simp only [Act.put, List.getElem_toArray, List.getElem_cons_succ, List.getElem_cons_zero, List.setIfInBounds_toArray, List.set_cons_zero, List.set_cons_succ]
  refine Held.take (k := 53) (i := 53) (v := ?vv53) nosv okkv_53 sizv (by kernel_rfl) rfl (fun _ _ _ h => h) (Or.inl ⟨by kernel_rfl, ?hyv53⟩) (by assumption) ?restv53
  case hyv53 => (intro w hSw; (try dsimp only at hSw); go_simp; (try (first | with_reducible rfl | rw [if_neg (by omega)])))
  try simp only [Act.put, List.getElem_toArray, List.getElem_cons_succ, List.getElem_cons_zero, List.setIfInBounds_toArray, List.set_cons_zero, List.set_cons_succ]
  refine Held.take (k := 54) (i := 54) (v := ?vv54) nosv okkv_54 sizv (by kernel_rfl) rfl (fun _ _ _ h => h) (Or.inl ⟨by kernel_rfl, ?hyv54⟩) (by assumption) ?restv54
  case hyv54 => (intro w hSw; (try dsimp only at hSw); go_simp; (try (first | with_reducible rfl | rw [if_neg (by omega)])))
  try simp only [Act.put, List.getElem_toArray, List.getElem_cons_succ, List.getElem_cons_zero, List.setIfInBounds_toArray, List.set_cons_zero, List.set_cons_succ]
  refine Held.take (k := 55) (i := 55) (v := ?vv55) nosv okkv_55 sizv (by kernel_rfl) rfl (fun _ _ _ h => h) (Or.inl ⟨by kernel_rfl, ?hyv55⟩) (by assumption) ?restv55
  case hyv55 => (intro w hSw; (try dsimp only at hSw); go_simp; (try (first | with_reducible rfl | rw [if_neg (by omega)])))
  try simp only [Act.put, List.getElem_toArray, List.getElem_cons_succ, List.getElem_cons_zero, List.setIfInBounds_toArray, List.set_cons_zero, List.set_cons_succ]
  refine Held.take (k := 56) (i := 56) (v := ?vv56) nosv okkv_56 sizv (by kernel_rfl) rfl (fun _ _ _ h => h) (Or.inl ⟨by kernel_rfl, ?hyv56⟩) (by assumption) ?restv56
  case hyv56 => (intro w hSw; (try dsimp only at hSw); go_simp; (try (first | with_reducible rfl | rw [if_neg (by omega)])))
  try simp only [Act.put, List.getElem_toArray, List.getElem_cons_succ, List.getElem_cons_zero, List.setIfInBounds_toArray, List.set_cons_zero, List.set_cons_succ]
  refine Held.take (k := 57) (i := 57) (v := ?vv57) nosv okkv_57 sizv (by kernel_rfl) rfl (fun _ _ _ h => h) (Or.inl ⟨by kernel_rfl, ?hyv57⟩) (by assumption) ?restv57
  case hyv57 => (intro w hSw; (try dsimp only at hSw); go_simp; (try (first | with_reducible rfl | rw [if_neg (by omega)])))
  try simp only [Act.put, List.getElem_toArray, List.getElem_cons_succ, List.getElem_cons_zero, List.setIfInBounds_toArray, List.set_cons_zero, List.set_cons_succ]
  refine Held.take (k := 58) (i := 58) (v := ?vv58) nosv okkv_58 sizv (by kernel_rfl) rfl (fun _ _ _ h => h) (Or.inl ⟨by kernel_rfl, ?hyv58⟩) (by assumption) ?restv58
  case hyv58 => (intro w hSw; (try dsimp only at hSw); go_simp; (try (first | with_reducible rfl | rw [if_neg (by omega)])))
  try simp only [Act.put, List.getElem_toArray, List.getElem_cons_succ, List.getElem_cons_zero, List.setIfInBounds_toArray, List.set_cons_zero, List.set_cons_succ]
  refine Held.take (k := 59) (i := 59) (v := ?vv59) nosv okkv_59 sizv (by kernel_rfl) rfl (fun _ _ _ h => h) (Or.inl ⟨by kernel_rfl, ?hyv59⟩) (by assumption) ?restv59
  case hyv59 => (intro w hSw; (try dsimp only at hSw); go_simp; (try (first | with_reducible rfl | rw [if_neg (by omega)])))
  try simp only [Act.put, List.getElem_toArray, List.getElem_cons_succ, List.getElem_cons_zero, List.setIfInBounds_toArray, List.set_cons_zero, List.set_cons_succ]
  refine Held.take (k := 60) (i := 60) (v := ?vv60) nosv okkv_60 sizv (by kernel_rfl) rfl (fun _ _ _ h => h) (Or.inl ⟨by kernel_rfl, ?hyv60⟩) (by assumption) ?restv60
  case hyv60 => (intro w hSw; (try dsimp only at hSw); go_simp; (try (first | with_reducible rfl | rw [if_neg (by omega)])))
  try simp only [Act.put, List.getElem_toArray, List.getElem_cons_succ, List.getElem_cons_zero, List.setIfInBounds_toArray, List.set_cons_zero, List.set_cons_succ]
  refine Held.take (k := 61) (i := 61) (v := ?vv61) nosv okkv_61 sizv (by kernel_rfl) rfl (fun _ _ _ h => h) (Or.inl ⟨by kernel_rfl, ?hyv61⟩) (by assumption) ?restv61
  case hyv61 => (intro w hSw; (try dsimp only at hSw); go_simp; (try (first | with_reducible rfl | rw [if_neg (by omega)])))
  try simp only [Act.put, List.getElem_toArray, List.getElem_cons_succ, List.getElem_cons_zero, List.setIfInBounds_toArray, List.set_cons_zero, List.set_cons_succ]
  refine Held.take (k := 62) (i := 62) (v := ?vv62) nosv okkv_62 sizv (by kernel_rfl) rfl (fun _ _ _ h => h) (Or.inl ⟨by kernel_rfl, ?hyv62⟩) (by assumption) ?restv62
  case hyv62 => (intro w hSw; (try dsimp only at hSw); go_simp; (try (first | with_reducible rfl | rw [if_neg (by omega)])))
  try simp only [Act.put, List.getElem_toArray, List.getElem_cons_succ, List.getElem_cons_zero, List.setIfInBounds_toArray, List.set_cons_zero, List.set_cons_succ]
  refine Held.take (k := 63) (i := 63) (v := ?vv63) nosv okkv_63 sizv (by kernel_rfl) rfl (fun _ _ _ h => h) (Or.inl ⟨by kernel_rfl, ?hyv63⟩) (by assumption) ?restv63
  case hyv63 => (intro w hSw; (try dsimp only at hSw); go_simp; (try (first | with_reducible rfl | rw [if_neg (by omega)])))
  try simp only [Act.put, List.getElem_toArray, List.getElem_cons_succ, List.getElem_cons_zero, List.setIfInBounds_toArray, List.set_cons_zero, List.set_cons_succ]
  refine Held.take (k := 64) (i := 64) (v := ?vv64) nosv okkv_64 sizv (by kernel_rfl) rfl (fun _ _ _ h => h) (Or.inl ⟨by kernel_rfl, ?hyv64⟩) (by assumption) ?restv64
  case hyv64 => (intro w hSw; (try dsimp only at hSw); go_simp; (try (first | with_reducible rfl | rw [if_neg (by omega)])))
  try simp only [Act.put, List.getElem_toArray, List.getElem_cons_succ, List.getElem_cons_zero, List.setIfInBounds_toArray, List.set_cons_zero, List.set_cons_succ]
  refine Held.take (k := 65) (i := 65) (v := ?vv65) nosv okkv_65 sizv (by kernel_rfl) rfl (fun _ _ _ h => h) (Or.inl ⟨by kernel_rfl, ?hyv65⟩) (by assumption) ?restv65
  case hyv65 => (intro w hSw; (try dsimp only at hSw); go_simp; (try (first | with_reducible rfl | rw [if_neg (by omega)])))
  try simp only [Act.put, List.getElem_toArray, List.getElem_cons_succ, List.getElem_cons_zero, List.setIfInBounds_toArray, List.set_cons_zero, List.set_cons_succ]
  refine Held.take (k := 66) (i := 66) (v := ?vv66) nosv okkv_66 sizv (by kernel_rfl) rfl (fun _ _ _ h => h) (Or.inl ⟨by kernel_rfl, ?hyv66⟩) (by assumption) ?restv66
  case hyv66 => (intro w hSw; (try dsimp only at hSw); go_simp; (try (first | with_reducible rfl | rw [if_neg (by omega)])))
  try simp only [Act.put, List.getElem_toArray, List.getElem_cons_succ, List.getElem_cons_zero, List.setIfInBounds_toArray, List.set_cons_zero, List.set_cons_succ]
  refine Held.take (k := 67) (i := 67) (v := ?vv67) nosv okkv_67 sizv (by kernel_rfl) rfl (fun _ _ _ h => h) (Or.inl ⟨by kernel_rfl, ?hyv67⟩) (by assumption) ?restv67
  case hyv67 => (intro w hSw; (try dsimp only at hSw); go_simp; (try (first | with_reducible rfl | rw [if_neg (by omega)])))
  try simp only [Act.put, List.getElem_toArray, List.getElem_cons_succ, List.getElem_cons_zero, List.setIfInBounds_toArray, List.set_cons_zero, List.set_cons_succ]
  refine Held.take (k := 68) (i := 68) (v := ?vv68) nosv okkv_68 sizv (by kernel_rfl) rfl (fun _ _ _ h => h) (Or.inl ⟨by kernel_rfl, ?hyv68⟩) (by assumption) ?restv68
  case hyv68 => (intro w hSw; (try dsimp only at hSw); go_simp; (try (first | with_reducible rfl | rw [if_neg (by omega)])))
  try simp only [Act.put, List.getElem_toArray, List.getElem_cons_succ, List.getElem_cons_zero, List.setIfInBounds_toArray, List.set_cons_zero, List.set_cons_succ]
  refine Held.take (k := 69) (i := 69) (v := ?vv69) nosv okkv_69 sizv (by kernel_rfl) rfl (fun _ _ _ h => h) (Or.inl ⟨by kernel_rfl, ?hyv69⟩) (by assumption) ?restv69
  case hyv69 => (intro w hSw; (try dsimp only at hSw); go_simp; (try (first | with_reducible rfl | rw [if_neg (by omega)])))
  try simp only [Act.put, List.getElem_toArray, List.getElem_cons_succ, List.getElem_cons_zero, List.setIfInBounds_toArray, List.set_cons_zero, List.set_cons_succ]
  refine Held.take (k := 70) (i := 70) (v := ?vv70) nosv okkv_70 sizv (by kernel_rfl) rfl (fun _ _ _ h => h) (Or.inl ⟨by kernel_rfl, ?hyv70⟩) (by assumption) ?restv70
  case hyv70 => (intro w hSw; (try dsimp only at hSw); go_simp; (try (first | with_reducible rfl | rw [if_neg (by omega)])))
  try simp only [Act.put, List.getElem_toArray, List.getElem_cons_succ, List.getElem_cons_zero, List.setIfInBounds_toArray, List.set_cons_zero, List.set_cons_succ]
  refine Held.take (k := 71) (i := 71) (v := ?vv71) nosv okkv_71 sizv (by kernel_rfl) rfl (fun _ _ _ h => h) (Or.inl ⟨by kernel_rfl, ?hyv71⟩) (by assumption) ?restv71
  case hyv71 => (intro w hSw; (try dsimp only at hSw); go_simp; (try (first | with_reducible rfl | rw [if_neg (by omega)])))
  try simp only [Act.put, List.getElem_toArray, List.getElem_cons_succ, List.getElem_cons_zero, List.setIfInBounds_toArray, List.set_cons_zero, List.set_cons_succ]
  refine Held.take (k := 72) (i := 72) (v := ?vv72) nosv okkv_72 sizv (by kernel_rfl) rfl (fun _ _ _ h => h) (Or.inl ⟨by kernel_rfl, ?hyv72⟩) (by assumption) ?restv72
  case hyv72 => (intro w hSw; (try dsimp only at hSw); go_simp; (try (first | with_reducible rfl | rw [if_neg (by omega)])))
  try simp only [Act.put, List.getElem_toArray, List.getElem_cons_succ, List.getElem_cons_zero, List.setIfInBounds_toArray, List.set_cons_zero, List.set_cons_succ]
  refine Held.take (k := 73) (i := 73) (v := ?vv73) nosv okkv_73 sizv (by kernel_rfl) rfl (fun _ _ _ h => h) (Or.inl ⟨by kernel_rfl, ?hyv73⟩) (by assumption) ?restv73
  case hyv73 => (intro w hSw; (try dsimp only at hSw); go_simp; (try (first | with_reducible rfl | rw [if_neg (by omega)])))
  try simp only [Act.put, List.getElem_toArray, List.getElem_cons_succ, List.getElem_cons_zero, List.setIfInBounds_toArray, List.set_cons_zero, List.set_cons_succ]
  refine Held.take (k := 74) (i := 74) (v := ?vv74) nosv okkv_74 sizv (by kernel_rfl) rfl (fun _ _ _ h => h) (Or.inl ⟨by kernel_rfl, ?hyv74⟩) (by assumption) ?restv74
  case hyv74 => (intro w hSw; (try dsimp only at hSw); go_simp; (try (first | with_reducible rfl | rw [if_neg (by omega)])))
  try simp only [Act.put, List.getElem_toArray, List.getElem_cons_succ, List.getElem_cons_zero, List.setIfInBounds_toArray, List.set_cons_zero, List.set_cons_succ]
  refine Held.only (k := 75) (i := 75) rdyv_75 (by kernel_rfl) rfl (by kernel_rfl) (fun K hK => ?_)
  go_simp
  go_at_call 37
  with_reducible refine (Sum5_is 0 0 none [] _ (RN.out _) 12638153115695167455 szT_nil l5i).mono ?_
  rintro e wb ⟨rfl, hbx⟩
  replace n0 := cell_below hbx n0
  replace n1 := cell_below hbx n1
  replace m0 := cell_below hbx m0
  replace m1 := cell_below hbx m1
  replace m2 := cell_below hbx m2
  replace m3 := cell_below hbx m3
  replace m4 := cell_below hbx m4
  replace m5 := cell_below hbx m5
  replace o0 := cell_below hbx o0
  replace o1 := cell_below hbx o1
  replace o2 := cell_below hbx o2
  replace o3 := cell_below hbx o3
  replace p0 := cell_below hbx p0
  replace p1 := cell_below hbx p1
  replace p2 := cell_below hbx p2
  replace p3 := cell_below hbx p3
  replace q00 := cell_below hbx q00
  replace q01 := cell_below hbx q01
  replace q02 := cell_below hbx q02
  replace q03 := cell_below hbx q03
  replace q04 := cell_below hbx q04
  replace q10 := cell_below hbx q10
  replace q11 := cell_below hbx q11
  replace q12 := cell_below hbx q12
  replace q13 := cell_below hbx q13
  replace q14 := cell_below hbx q14
  replace rt := rt.below hbx
  replace rx := rx.below hbx
  replace D := below_call D hbx
  refine hK.out _ _ (by (try dsimp only); (exact ⟨n0, n1, m0, m1, m2, m3, m4, m5, o0, o1, o2, o3, p0, p1, p2, p3, q00, q01, q02, q03, q04, q10, q11, q12, q13, q14⟩)) (fun hHeld => ?_)
  clear hK K
  try simp only [Act.put, List.getElem_toArray, List.getElem_cons_succ, List.getElem_cons_zero, List.setIfInBounds_toArray, List.set_cons_zero, List.set_cons_succ]
  refine Held.take (k := 76) (i := 76) (v := ?vv76) nosv okkv_76 sizv (by kernel_rfl) rfl (fun _ _ _ h => h) (Or.inl ⟨by kernel_rfl, ?hyv76⟩) (by assumption) ?restv76
  case hyv76 => (intro w hSw; (try dsimp only at hSw); go_simp; (try (first | with_reducible rfl | rw [if_neg (by omega)])))
  try simp only [Act.put, List.getElem_toArray, List.getElem_cons_succ, List.getElem_cons_zero, List.setIfInBounds_toArray, List.set_cons_zero, List.set_cons_succ]
  refine Held.take (k := 77) (i := 77) (v := ?vv77) nosv okkv_77 sizv (by kernel_rfl) rfl (fun _ _ _ h => h) (Or.inl ⟨by kernel_rfl, ?hyv77⟩) (by assumption) ?restv77
  case hyv77 => (intro w hSw; (try dsimp only at hSw); go_simp; (try (first | with_reducible rfl | rw [if_neg (by omega)])))
  try simp only [Act.put, List.getElem_toArray, List.getElem_cons_succ, List.getElem_cons_zero, List.setIfInBounds_toArray, List.set_cons_zero, List.set_cons_succ]
  refine Held.take (k := 78) (i := 78) (v := ?vv78) nosv okkv_78 sizv (by kernel_rfl) rfl (fun _ _ _ h => h) (Or.inl ⟨by kernel_rfl, ?hyv78⟩) (by assumption) ?restv78
  case hyv78 => (intro w hSw; (try dsimp only at hSw); go_simp; (try (first | with_reducible rfl | rw [if_neg (by omega)])))
  try simp only [Act.put, List.getElem_toArray, List.getElem_cons_succ, List.getElem_cons_zero, List.setIfInBounds_toArray, List.set_cons_zero, List.set_cons_succ]
  refine Held.take (k := 79) (i := 79) (v := ?vv79) nosv okkv_79 sizv (by kernel_rfl) rfl (fun _ _ _ h => h) (Or.inl ⟨by kernel_rfl, ?hyv79⟩) (by assumption) ?restv79
  case hyv79 => (intro w hSw; (try dsimp only at hSw); go_simp; (try (first | with_reducible rfl | rw [if_neg (by omega)])))
  try simp only [Act.put, List.getElem_toArray, List.getElem_cons_succ, List.getElem_cons_zero, List.setIfInBounds_toArray, List.set_cons_zero, List.set_cons_succ]
  refine Held.take (k := 80) (i := 81) (v := ?vv80) nosv okkv_80 sizv (by kernel_rfl) rfl (fun _ _ _ h => h) (Or.inl ⟨by kernel_rfl, ?hyv80⟩) (by assumption) ?restv80
  case hyv80 => (intro w hSw; (try dsimp only at hSw); go_simp; (try (first | with_reducible rfl | rw [if_neg (by omega)])))
  try simp only [Act.put, List.getElem_toArray, List.getElem_cons_succ, List.getElem_cons_zero, List.setIfInBounds_toArray, List.set_cons_zero, List.set_cons_succ]
  refine Held.only (k := 81) (i := 80) rdyv_81 (by kernel_rfl) rfl (by kernel_rfl) (fun K hK => ?_)
  go_simp
  go_at_call 37
  with_reducible refine (Sum5_is 2 2 (some ⟨w.heap.size + 1, 0, none⟩) [r5B, r5A] _ rt 4453172539554908332 (szT_of _ (by decide)) l5j).mono ?_
  rintro e wc ⟨rfl, hbx⟩
  replace n0 := cell_below hbx n0
  replace n1 := cell_below hbx n1
  replace m0 := cell_below hbx m0
  replace m1 := cell_below hbx m1
  replace m2 := cell_below hbx m2
  replace m3 := cell_below hbx m3
  replace m4 := cell_below hbx m4
  replace m5 := cell_below hbx m5
  replace o0 := cell_below hbx o0
  replace o1 := cell_below hbx o1
  replace o2 := cell_below hbx o2
  replace o3 := cell_below hbx o3
  replace p0 := cell_below hbx p0
  replace p1 := cell_below hbx p1
  replace p2 := cell_below hbx p2
  replace p3 := cell_below hbx p3
  replace q00 := cell_below hbx q00
  replace q01 := cell_below hbx q01
  replace q02 := cell_below hbx q02
  replace q03 := cell_below hbx q03
  replace q04 := cell_below hbx q04
  replace q10 := cell_below hbx q10
  replace q11 := cell_below hbx q11
  replace q12 := cell_below hbx q12
  replace q13 := cell_below hbx q13
  replace q14 := cell_below hbx q14
  replace rt := rt.below hbx
  replace rx := rx.below hbx
  replace D := below_call D hbx
  refine hK.out _ _ (by (try dsimp only); (exact ⟨n0, n1, m0, m1, m2, m3, m4, m5, o0, o1, o2, o3, p0, p1, p2, p3, q00, q01, q02, q03, q04, q10, q11, q12, q13, q14⟩)) (fun hHeld => ?_)
  clear hK K
  try simp only [Act.put, List.getElem_toArray, List.getElem_cons_succ, List.getElem_cons_zero, List.setIfInBounds_toArray, List.set_cons_zero, List.set_cons_succ]
  refine Held.only (k := 82) (i := 82) rdyv_82 (by kernel_rfl) rfl (by kernel_rfl) (fun K hK => ?_)
  go_simp
  go_at_call 37
  with_reducible refine (Sum5_is 1 c5 (some adx) [r5A] _ rx 9957174933516939641 (szT_of _ (by decide)) l5k).mono ?_
  rintro e wd ⟨rfl, hbx⟩
  replace n0 := cell_below hbx n0
  replace n1 := cell_below hbx n1
  replace m0 := cell_below hbx m0
  replace m1 := cell_below hbx m1
  replace m2 := cell_below hbx m2
  replace m3 := cell_below hbx m3
  replace m4 := cell_below hbx m4
  replace m5 := cell_below hbx m5
  replace o0 := cell_below hbx o0
  replace o1 := cell_below hbx o1
  replace o2 := cell_below hbx o2
  replace o3 := cell_below hbx o3
  replace p0 := cell_below hbx p0
  replace p1 := cell_below hbx p1
  replace p2 := cell_below hbx p2
  replace p3 := cell_below hbx p3
  replace q00 := cell_below hbx q00
  replace q01 := cell_below hbx q01
  replace q02 := cell_below hbx q02
  replace q03 := cell_below hbx q03
  replace q04 := cell_below hbx q04
  replace q10 := cell_below hbx q10
  replace q11 := cell_below hbx q11
  replace q12 := cell_below hbx q12
  replace q13 := cell_below hbx q13
  replace q14 := cell_below hbx q14
  replace rt := rt.below hbx
  replace rx := rx.below hbx
  replace D := below_call D hbx
  refine hK.out _ _ (by (try dsimp only); (exact ⟨n0, n1, m0, m1, m2, m3, m4, m5, o0, o1, o2, o3, p0, p1, p2, p3, q00, q01, q02, q03, q04, q10, q11, q12, q13, q14⟩)) (fun hHeld => ?_)
  clear hK K
  try simp only [Act.put, List.getElem_toArray, List.getElem_cons_succ, List.getElem_cons_zero, List.setIfInBounds_toArray, List.set_cons_zero, List.set_cons_succ]
  refine Held.take (k := 83) (i := 83) (v := ?vv83) nosv okkv_83 sizv (by kernel_rfl) rfl (fun _ _ _ h => h) (Or.inl ⟨by kernel_rfl, ?hyv83⟩) (by assumption) ?restv83
  case hyv83 => (intro w hSw; (try dsimp only at hSw); go_simp; (try (first | with_reducible rfl | rw [if_neg (by omega)])))
  try simp only [Act.put, List.getElem_toArray, List.getElem_cons_succ, List.getElem_cons_zero, List.setIfInBounds_toArray, List.set_cons_zero, List.set_cons_succ]
  refine Held.take (k := 84) (i := 84) (v := ?vv84) nosv okkv_84 sizv (by kernel_rfl) rfl (fun _ _ _ h => h) (Or.inl ⟨by kernel_rfl, ?hyv84⟩) (by assumption) ?restv84
  case hyv84 => (intro w hSw; (try dsimp only at hSw); go_simp; (try (first | with_reducible rfl | rw [if_neg (by omega)])))
  try simp only [Act.put, List.getElem_toArray, List.getElem_cons_succ, List.getElem_cons_zero, List.setIfInBounds_toArray, List.set_cons_zero, List.set_cons_succ]
  refine Held.take (k := 85) (i := 85) (v := ?vv85) nosv okkv_85 sizv (by kernel_rfl) rfl (fun _ _ _ h => h) (Or.inl ⟨by kernel_rfl, ?hyv85⟩) (by assumption) ?restv85
  case hyv85 => (intro w hSw; (try dsimp only at hSw); go_simp; (try (first | with_reducible rfl | rw [if_neg (by omega)])))
  try simp only [Act.put, List.getElem_toArray, List.getElem_cons_succ, List.getElem_cons_zero, List.setIfInBounds_toArray, List.set_cons_zero, List.set_cons_succ]
  refine Held.take (k := 86) (i := 86) (v := ?vv86) nosv okkv_86 sizv (by kernel_rfl) rfl (fun _ _ _ h => h) (Or.inl ⟨by kernel_rfl, ?hyv86⟩) (by assumption) ?restv86
  case hyv86 => (intro w hSw; (try dsimp only at hSw); go_simp; (try (first | with_reducible rfl | rw [if_neg (by omega)])))
  try simp only [Act.put, List.getElem_toArray, List.getElem_cons_succ, List.getElem_cons_zero, List.setIfInBounds_toArray, List.set_cons_zero, List.set_cons_succ]
  refine Held.only (k := 87) (i := 87) rdyv_87 (by kernel_rfl) rfl (by kernel_rfl) (fun K hK => ?_)
  go_simp
  go_at_call 35
  with_reducible refine (May5_is 2 2 (some ⟨w.heap.size + 1, 0, none⟩) [r5B, r5A] _ rt true (szT_of _ (by decide)) l5l).mono ?_
  rintro e we ⟨rfl, hbx⟩
  replace n0 := cell_below hbx n0
  replace n1 := cell_below hbx n1
  replace m0 := cell_below hbx m0
  replace m1 := cell_below hbx m1
  replace m2 := cell_below hbx m2
  replace m3 := cell_below hbx m3
  replace m4 := cell_below hbx m4
  replace m5 := cell_below hbx m5
  replace o0 := cell_below hbx o0
  replace o1 := cell_below hbx o1
  replace o2 := cell_below hbx o2
  replace o3 := cell_below hbx o3
  replace p0 := cell_below hbx p0
  replace p1 := cell_below hbx p1
  replace p2 := cell_below hbx p2
  replace p3 := cell_below hbx p3
  replace q00 := cell_below hbx q00
  replace q01 := cell_below hbx q01
  replace q02 := cell_below hbx q02
  replace q03 := cell_below hbx q03
  replace q04 := cell_below hbx q04
  replace q10 := cell_below hbx q10
  replace q11 := cell_below hbx q11
  replace q12 := cell_below hbx q12
  replace q13 := cell_below hbx q13
  replace q14 := cell_below hbx q14
  replace rt := rt.below hbx
  replace rx := rx.below hbx
  replace D := below_call D hbx
  refine hK.out _ _ (by (try dsimp only); (exact ⟨n0, n1, m0, m1, m2, m3, m4, m5, o0, o1, o2, o3, p0, p1, p2, p3, q00, q01, q02, q03, q04, q10, q11, q12, q13, q14⟩)) (fun hHeld => ?_)
  clear hK K
  try simp only [Act.put, List.getElem_toArray, List.getElem_cons_succ, List.getElem_cons_zero, List.setIfInBounds_toArray, List.set_cons_zero, List.set_cons_succ]
  refine Held.take (k := 88) (i := 88) (v := ?vv88) nosv okkv_88 sizv (by kernel_rfl) rfl (fun _ _ _ h => h) (Or.inl ⟨by kernel_rfl, ?hyv88⟩) (by assumption) ?restv88
  case hyv88 => (intro w hSw; (try dsimp only at hSw); go_simp; (try (first | with_reducible rfl | rw [if_neg (by omega)])))
  try simp only [Act.put, List.getElem_toArray, List.getElem_cons_succ, List.getElem_cons_zero, List.setIfInBounds_toArray, List.set_cons_zero, List.set_cons_succ]
  refine Held.take (k := 89) (i := 89) (v := ?vv89) nosv okkv_89 sizv (by kernel_rfl) rfl (fun _ _ _ h => h) (Or.inl ⟨by kernel_rfl, ?hyv89⟩) (by assumption) ?restv89
  case hyv89 => (intro w hSw; (try dsimp only at hSw); go_simp; (try (first | with_reducible rfl | rw [if_neg (by omega)])))
  try simp only [Act.put, List.getElem_toArray, List.getElem_cons_succ, List.getElem_cons_zero, List.setIfInBounds_toArray, List.set_cons_zero, List.set_cons_succ]
  refine Held.take (k := 90) (i := 90) (v := ?vv90) nosv okkv_90 sizv (by kernel_rfl) rfl (fun _ _ _ h => h) (Or.inl ⟨by kernel_rfl, ?hyv90⟩) (by assumption) ?restv90
  case hyv90 => (intro w hSw; (try dsimp only at hSw); go_simp; (try (first | with_reducible rfl | rw [if_neg (by omega)])))
  try simp only [Act.put, List.getElem_toArray, List.getElem_cons_succ, List.getElem_cons_zero, List.setIfInBounds_toArray, List.set_cons_zero, List.set_cons_succ]
  refine Held.take (k := 91) (i := 91) (v := ?vv91) nosv okkv_91 sizv (by kernel_rfl) rfl (fun _ _ _ h => h) (Or.inl ⟨by kernel_rfl, ?hyv91⟩) (by assumption) ?restv91
  case hyv91 => (intro w hSw; (try dsimp only at hSw); go_simp; (try (first | with_reducible rfl | rw [if_neg (by omega)])))
  try simp only [Act.put, List.getElem_toArray, List.getElem_cons_succ, List.getElem_cons_zero, List.setIfInBounds_toArray, List.set_cons_zero, List.set_cons_succ]
  refine Held.take (k := 92) (i := 92) (v := ?vv92) nosv okkv_92 sizv (by kernel_rfl) rfl (fun _ _ _ h => h) (Or.inl ⟨by kernel_rfl, ?hyv92⟩) (by assumption) ?restv92
  case hyv92 => (intro w hSw; (try dsimp only at hSw); go_simp; (try (first | with_reducible rfl | rw [if_neg (by omega)])))
  try simp only [Act.put, List.getElem_toArray, List.getElem_cons_succ, List.getElem_cons_zero, List.setIfInBounds_toArray, List.set_cons_zero, List.set_cons_succ]
  refine Held.take (k := 93) (i := 93) (v := ?vv93) nosv okkv_93 sizv (by kernel_rfl) rfl (fun _ _ _ h => h) (Or.inl ⟨by kernel_rfl, ?hyv93⟩) (by assumption) ?restv93
  case hyv93 => (intro w hSw; (try dsimp only at hSw); go_simp; (try (first | with_reducible rfl | rw [if_neg (by omega)])))
  try simp only [Act.put, List.getElem_toArray, List.getElem_cons_succ, List.getElem_cons_zero, List.setIfInBounds_toArray, List.set_cons_zero, List.set_cons_succ]
  refine Held.take (k := 94) (i := 94) (v := ?vv94) nosv okkv_94 sizv (by kernel_rfl) rfl (fun _ _ _ h => h) (Or.inl ⟨by kernel_rfl, ?hyv94⟩) (by assumption) ?restv94
  case hyv94 => (intro w hSw; (try dsimp only at hSw); go_simp; (try (first | with_reducible rfl | rw [if_neg (by omega)])))
  try simp only [Act.put, List.getElem_toArray, List.getElem_cons_succ, List.getElem_cons_zero, List.setIfInBounds_toArray, List.set_cons_zero, List.set_cons_succ]
  refine Held.take (k := 95) (i := 95) (v := ?vv95) nosv okkv_95 sizv (by kernel_rfl) rfl (fun _ _ _ h => h) (Or.inl ⟨by kernel_rfl, ?hyv95⟩) (by assumption) ?restv95
  case hyv95 => (intro w hSw; (try dsimp only at hSw); go_simp; (try (first | with_reducible rfl | rw [if_neg (by omega)])))
  try simp only [Act.put, List.getElem_toArray, List.getElem_cons_succ, List.getElem_cons_zero, List.setIfInBounds_toArray, List.set_cons_zero, List.set_cons_succ]
  refine Held.only (k := 96) (i := 96) rdyv_96 (by kernel_rfl) rfl (by kernel_rfl) (fun K hK => ?_)
  go_simp
  have h2 := (Own.lit (e := 66) (base := 0) enSn_len we [r5A, r5B] #[.string b5A, .int .i64 4, .int .i64 0, .int .i64 5, .string b5E, .string b5B, .int .i64 4, .int .i64 0, .int .i64 5, .string b5E] 2 rfl rfl (Nat.zero_le _) (by omega)).row
  clear rt rx
  replace n0 := cell_below (below_box (.cells #[.string b5A, .int .i64 4, .int .i64 0, .int .i64 5, .string b5E, .string b5B, .int .i64 4, .int .i64 0, .int .i64 5, .string b5E] 66)) n0
  replace n1 := cell_below (below_box (.cells #[.string b5A, .int .i64 4, .int .i64 0, .int .i64 5, .string b5E, .string b5B, .int .i64 4, .int .i64 0, .int .i64 5, .string b5E] 66)) n1
  replace m0 := cell_below (below_box (.cells #[.string b5A, .int .i64 4, .int .i64 0, .int .i64 5, .string b5E, .string b5B, .int .i64 4, .int .i64 0, .int .i64 5, .string b5E] 66)) m0
  replace m1 := cell_below (below_box (.cells #[.string b5A, .int .i64 4, .int .i64 0, .int .i64 5, .string b5E, .string b5B, .int .i64 4, .int .i64 0, .int .i64 5, .string b5E] 66)) m1
  replace m2 := cell_below (below_box (.cells #[.string b5A, .int .i64 4, .int .i64 0, .int .i64 5, .string b5E, .string b5B, .int .i64 4, .int .i64 0, .int .i64 5, .string b5E] 66)) m2
  replace m3 := cell_below (below_box (.cells #[.string b5A, .int .i64 4, .int .i64 0, .int .i64 5, .string b5E, .string b5B, .int .i64 4, .int .i64 0, .int .i64 5, .string b5E] 66)) m3
  replace m4 := cell_below (below_box (.cells #[.string b5A, .int .i64 4, .int .i64 0, .int .i64 5, .string b5E, .string b5B, .int .i64 4, .int .i64 0, .int .i64 5, .string b5E] 66)) m4
  replace m5 := cell_below (below_box (.cells #[.string b5A, .int .i64 4, .int .i64 0, .int .i64 5, .string b5E, .string b5B, .int .i64 4, .int .i64 0, .int .i64 5, .string b5E] 66)) m5
  replace o0 := cell_below (below_box (.cells #[.string b5A, .int .i64 4, .int .i64 0, .int .i64 5, .string b5E, .string b5B, .int .i64 4, .int .i64 0, .int .i64 5, .string b5E] 66)) o0
  replace o1 := cell_below (below_box (.cells #[.string b5A, .int .i64 4, .int .i64 0, .int .i64 5, .string b5E, .string b5B, .int .i64 4, .int .i64 0, .int .i64 5, .string b5E] 66)) o1
  replace o2 := cell_below (below_box (.cells #[.string b5A, .int .i64 4, .int .i64 0, .int .i64 5, .string b5E, .string b5B, .int .i64 4, .int .i64 0, .int .i64 5, .string b5E] 66)) o2
  replace o3 := cell_below (below_box (.cells #[.string b5A, .int .i64 4, .int .i64 0, .int .i64 5, .string b5E, .string b5B, .int .i64 4, .int .i64 0, .int .i64 5, .string b5E] 66)) o3
  replace p0 := cell_below (below_box (.cells #[.string b5A, .int .i64 4, .int .i64 0, .int .i64 5, .string b5E, .string b5B, .int .i64 4, .int .i64 0, .int .i64 5, .string b5E] 66)) p0
  replace p1 := cell_below (below_box (.cells #[.string b5A, .int .i64 4, .int .i64 0, .int .i64 5, .string b5E, .string b5B, .int .i64 4, .int .i64 0, .int .i64 5, .string b5E] 66)) p1
  replace p2 := cell_below (below_box (.cells #[.string b5A, .int .i64 4, .int .i64 0, .int .i64 5, .string b5E, .string b5B, .int .i64 4, .int .i64 0, .int .i64 5, .string b5E] 66)) p2
  replace p3 := cell_below (below_box (.cells #[.string b5A, .int .i64 4, .int .i64 0, .int .i64 5, .string b5E, .string b5B, .int .i64 4, .int .i64 0, .int .i64 5, .string b5E] 66)) p3
  replace q00 := cell_below (below_box (.cells #[.string b5A, .int .i64 4, .int .i64 0, .int .i64 5, .string b5E, .string b5B, .int .i64 4, .int .i64 0, .int .i64 5, .string b5E] 66)) q00
  replace q01 := cell_below (below_box (.cells #[.string b5A, .int .i64 4, .int .i64 0, .int .i64 5, .string b5E, .string b5B, .int .i64 4, .int .i64 0, .int .i64 5, .string b5E] 66)) q01
  replace q02 := cell_below (below_box (.cells #[.string b5A, .int .i64 4, .int .i64 0, .int .i64 5, .string b5E, .string b5B, .int .i64 4, .int .i64 0, .int .i64 5, .string b5E] 66)) q02
  replace q03 := cell_below (below_box (.cells #[.string b5A, .int .i64 4, .int .i64 0, .int .i64 5, .string b5E, .string b5B, .int .i64 4, .int .i64 0, .int .i64 5, .string b5E] 66)) q03
  replace q04 := cell_below (below_box (.cells #[.string b5A, .int .i64 4, .int .i64 0, .int .i64 5, .string b5E, .string b5B, .int .i64 4, .int .i64 0, .int .i64 5, .string b5E] 66)) q04
  replace q10 := cell_below (below_box (.cells #[.string b5A, .int .i64 4, .int .i64 0, .int .i64 5, .string b5E, .string b5B, .int .i64 4, .int .i64 0, .int .i64 5, .string b5E] 66)) q10
  replace q11 := cell_below (below_box (.cells #[.string b5A, .int .i64 4, .int .i64 0, .int .i64 5, .string b5E, .string b5B, .int .i64 4, .int .i64 0, .int .i64 5, .string b5E] 66)) q11
  replace q12 := cell_below (below_box (.cells #[.string b5A, .int .i64 4, .int .i64 0, .int .i64 5, .string b5E, .string b5B, .int .i64 4, .int .i64 0, .int .i64 5, .string b5E] 66)) q12
  replace q13 := cell_below (below_box (.cells #[.string b5A, .int .i64 4, .int .i64 0, .int .i64 5, .string b5E, .string b5B, .int .i64 4, .int .i64 0, .int .i64 5, .string b5E] 66)) q13
  replace q14 := cell_below (below_box (.cells #[.string b5A, .int .i64 4, .int .i64 0, .int .i64 5, .string b5E, .string b5B, .int .i64 4, .int .i64 0, .int .i64 5, .string b5E] 66)) q14
  replace D := below_alloc0 D (.cells #[.string b5A, .int .i64 4, .int .i64 0, .int .i64 5, .string b5E, .string b5B, .int .i64 4, .int .i64 0, .int .i64 5, .string b5E] 66)
  refine hK.out _ _ (by (try dsimp only); (exact ⟨n0, n1, m0, m1, m2, m3, m4, m5, o0, o1, o2, o3, p0, p1, p2, p3, q00, q01, q02, q03, q04, q10, q11, q12, q13, q14⟩)) (fun hHeld => ?_)
  clear hK K
  try simp only [Act.put, List.getElem_toArray, List.getElem_cons_succ, List.getElem_cons_zero, List.setIfInBounds_toArray, List.set_cons_zero, List.set_cons_succ]
  refine Held.only (k := 97) (i := 97) rdyv_97 (by kernel_rfl) rfl (by kernel_rfl) (fun K hK => ?_)
  go_simp
  go_at_call 35
  with_reducible refine (May5_is 2 2 _ [r5A, r5B] _ h2 false (szT_of _ (by decide)) l5m).mono ?_
  rintro e wf ⟨rfl, hbx⟩
  replace n0 := cell_below hbx n0
  replace n1 := cell_below hbx n1
  replace m0 := cell_below hbx m0
  replace m1 := cell_below hbx m1
  replace m2 := cell_below hbx m2
  replace m3 := cell_below hbx m3
  replace m4 := cell_below hbx m4
  replace m5 := cell_below hbx m5
  replace o0 := cell_below hbx o0
  replace o1 := cell_below hbx o1
  replace o2 := cell_below hbx o2
  replace o3 := cell_below hbx o3
  replace p0 := cell_below hbx p0
  replace p1 := cell_below hbx p1
  replace p2 := cell_below hbx p2
  replace p3 := cell_below hbx p3
  replace q00 := cell_below hbx q00
  replace q01 := cell_below hbx q01
  replace q02 := cell_below hbx q02
  replace q03 := cell_below hbx q03
  replace q04 := cell_below hbx q04
  replace q10 := cell_below hbx q10
  replace q11 := cell_below hbx q11
  replace q12 := cell_below hbx q12
  replace q13 := cell_below hbx q13
  replace q14 := cell_below hbx q14
  replace D := below_call D hbx
  refine hK.out _ _ (by (try dsimp only); (exact ⟨n0, n1, m0, m1, m2, m3, m4, m5, o0, o1, o2, o3, p0, p1, p2, p3, q00, q01, q02, q03, q04, q10, q11, q12, q13, q14⟩)) (fun hHeld => ?_)
  clear hK K
  try simp only [Act.put, List.getElem_toArray, List.getElem_cons_succ, List.getElem_cons_zero, List.setIfInBounds_toArray, List.set_cons_zero, List.set_cons_succ]
  refine Held.take (k := 98) (i := 98) (v := ?vv98) nosv okkv_98 sizv (by kernel_rfl) rfl (fun _ _ _ h => h) (Or.inl ⟨by kernel_rfl, ?hyv98⟩) (by assumption) ?restv98
  case hyv98 => (intro w hSw; (try dsimp only at hSw); go_simp; (try (first | with_reducible rfl | rw [if_neg (by omega)])))
  try simp only [Act.put, List.getElem_toArray, List.getElem_cons_succ, List.getElem_cons_zero, List.setIfInBounds_toArray, List.set_cons_zero, List.set_cons_succ]
  refine Held.take (k := 99) (i := 99) (v := ?vv99) nosv okkv_99 sizv (by kernel_rfl) rfl (fun _ _ _ h => h) (Or.inl ⟨by kernel_rfl, ?hyv99⟩) (by assumption) ?restv99
  case hyv99 => (intro w hSw; (try dsimp only at hSw); go_simp; (try (first | with_reducible rfl | rw [if_neg (by omega)])))
  try simp only [Act.put, List.getElem_toArray, List.getElem_cons_succ, List.getElem_cons_zero, List.setIfInBounds_toArray, List.set_cons_zero, List.set_cons_succ]
  refine Held.take (k := 100) (i := 100) (v := ?vv100) nosv okkv_100 sizv (by kernel_rfl) rfl (fun _ _ _ h => h) (Or.inl ⟨by kernel_rfl, ?hyv100⟩) (by assumption) ?restv100
  case hyv100 => (intro w hSw; (try dsimp only at hSw); go_simp; (try (first | with_reducible rfl | rw [if_neg (by omega)])))
  try simp only [Act.put, List.getElem_toArray, List.getElem_cons_succ, List.getElem_cons_zero, List.setIfInBounds_toArray, List.set_cons_zero, List.set_cons_succ]
  refine wpAnyH_done (by kernel_rfl) ?_ _
  go_wp2
  go_ret
  exact ⟨by kernel_rfl, D⟩
end Go.Proofs.Ytcopiimflloooaa
