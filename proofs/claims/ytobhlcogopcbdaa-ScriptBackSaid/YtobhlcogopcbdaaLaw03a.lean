/-
Contracts by their answers, and the walk of 'live' of the statements on names.
-/
import Derived.Test.YtobhlcogopcbdaaRefList2
import Derived.Test.YtobhlcogopcbdaaIdentB
import Derived.Test.YtobhlcogopcbdaaIdentC
namespace Go.Proofs.Ytobhlcogopcbdaa
open Go.RowKit Sp

theorem below_alloc {w w1 : World} (h : Below w.heap.size w w1) (o : Obj) : Below w.heap.size w (w1.alloc o) := h.alloc h.size o

section
variable (w : World)
theorem identFold_is (s t : ByteArray) (b : Bool) (h : Hid (foldV s = (t, b))) (hs : s.size ≤ 140737488351232) :
    Calls Try.prog 16 #[.string s] w fun e w' => e = .returned (.tuple #[.string t, .bool b]) ∧ Below w.heap.size w w' := re_ (identFold_calls s w hs) (by rw [h.out])
theorem refFold_is (s t : ByteArray) (b : Bool) (h : Hid (foldV s = (t, b))) (hs : s.size ≤ 140737488351232) :
    Calls Try.prog 17 #[.string s] w fun e w' => e = .returned (.tuple #[.string t, .bool b]) ∧ Below w.heap.size w w' := re_ (refFold_calls s w hs) (by rw [h.out])
theorem identPut_is (s t : ByteArray) (b : Bool) (h : Hid (putN s = (t, b))) (hs : s.size ≤ 140737488351232) :
    Calls Try.prog 18 #[.string s] w fun e w' => e = .returned (.tuple #[.string t, .bool b]) ∧ Below w.heap.size w w' := re_ (identPut_calls s w hs) (by rw [h.out])
theorem refNPut_is (s t : ByteArray) (b : Bool) (h : Hid (putN s = (t, b))) (hs : s.size ≤ 140737488351232) :
    Calls Try.prog 19 #[.string s] w fun e w' => e = .returned (.tuple #[.string t, .bool b]) ∧ Below w.heap.size w w' := re_ (refNPut_calls s w hs) (by rw [h.out])
theorem identTake_is (s : ByteArray) (a : Int) (t : ByteArray) (to er : Int) (h : Hid (takeN s a = (t, to, er))) (hs : s.size ≤ 140737488351232) :
    Calls Try.prog 22 #[.string s, .int .i64 a] w fun e w' => e = .returned (.tuple #[.string t, .int .i64 to, .int .i64 er]) ∧ Below w.heap.size w w' := re_ (identTake_calls s a w hs) (by rw [h.out])
theorem refNTake_is (s : ByteArray) (a : Int) (t : ByteArray) (to er : Int) (h : Hid (takeN s a = (t, to, er))) (hs : s.size ≤ 140737488351232) :
    Calls Try.prog 23 #[.string s, .int .i64 a] w fun e w' => e = .returned (.tuple #[.string t, .int .i64 to, .int .i64 er]) ∧ Below w.heap.size w w' := re_ (refNTake_calls s a w hs) (by rw [h.out])
theorem Is_is (s : ByteArray) (b : Bool) (h : Hid (isName s = b)) (hs : s.size ≤ 140737488351232) :
    Calls Try.prog 20 #[.string s] w fun e w' => e = .returned (.bool b) ∧ Below w.heap.size w w' := re_ (Is_calls s w hs) (by rw [h.out])
theorem refIs_is (s : ByteArray) (b : Bool) (h : Hid (isName s = b)) (hs : s.size ≤ 140737488351232) :
    Calls Try.prog 21 #[.string s] w fun e w' => e = .returned (.bool b) ∧ w = w' := re_ (refIs_calls s w hs) (by rw [h.out])
theorem Less_is (s t : ByteArray) (b : Bool) (h : Hid (less s t = b)) :
    Calls Try.prog 25 #[.string s, .string t] w fun e w' => e = .returned (.bool b) ∧ Below w.heap.size w w' := re_ (Less_calls s t w) (by rw [h.out])
theorem refLess_is (s t : ByteArray) (b : Bool) (h : Hid (less s t = b)) :
    Calls Try.prog 26 #[.string s, .string t] w fun e w' => e = .returned (.bool b) ∧ w = w' := re_ (refLess_calls s t w) (by rw [h.out])
end

set_option maxHeartbeats 2000000 in
set_option maxRecDepth 100000 in
theorem live03 (w : World) : Calls Try.prog 15 #[] w fun e w' => e = .returned (.bool true) ∧ Below w.heap.size w w' := by
  go_enter Try.func15, Try.ntmps15
  go_wp2_with fail
  refine (identFold_is _ _ ⟨#[97, 110, 110, 45, 50]⟩ true (by show _ = _; decide +kernel) (by decide)).mono ?_
  rintro e w1 ⟨rfl, b1⟩
  go_wp2_with fail
  refine (identFold_is _ _ ⟨#[]⟩ false (by show _ = _; decide +kernel) (by decide)).mono ?_
  rintro e w2 ⟨rfl, b2⟩
  replace b2 := below_call b1 b2
  clear b1
  go_wp2_with fail
  refine (identPut_is _ _ ⟨#[3, 98, 111, 98]⟩ true (by show _ = _; decide +kernel) (by decide)).mono ?_
  rintro e w3 ⟨rfl, b3⟩
  replace b3 := below_call b2 b3
  clear b2
  go_wp2_with fail
  refine (identPut_is _ _ ⟨#[]⟩ false (by show _ = _; decide +kernel) (by decide)).mono ?_
  rintro e w4 ⟨rfl, b4⟩
  replace b4 := below_call b3 b4
  clear b3
  go_wp2_with fail
  refine (identTake_is _ _ 1 ⟨#[98, 111, 98]⟩ 5 0 (by show _ = _; decide +kernel) (by decide)).mono ?_
  rintro e w5 ⟨rfl, b5⟩
  replace b5 := below_call b4 b5
  clear b4
  go_wp2_with fail
  refine (identTake_is _ _ 0 ⟨#[]⟩ 0 3 (by show _ = _; decide +kernel) (by decide)).mono ?_
  rintro e w6 ⟨rfl, b6⟩
  replace b6 := below_call b5 b6
  clear b5
  go_wp2_with fail
  refine (identTake_is _ _ 0 ⟨#[]⟩ 0 2 (by show _ = _; decide +kernel) (by decide)).mono ?_
  rintro e w7 ⟨rfl, b7⟩
  replace b7 := below_call b6 b7
  clear b6
  go_wp2_with fail
  refine (Is_is _ _ true (by show _ = _; decide +kernel) (by decide)).mono ?_
  rintro e w8 ⟨rfl, b8⟩
  replace b8 := below_call b7 b8
  clear b7
  go_wp2_with fail
  refine (Is_is _ _ false (by show _ = _; decide +kernel) (by decide)).mono ?_
  rintro e w9 ⟨rfl, b9⟩
  replace b9 := below_call b8 b9
  clear b8
  go_wp2_with fail
  refine (Less_is _ _ _ true (by show _ = _; decide +kernel)).mono ?_
  rintro e w10 ⟨rfl, b10⟩
  replace b10 := below_call b9 b10
  clear b9
  go_wp2_with fail
  refine (Less_is _ _ _ false (by show _ = _; decide +kernel)).mono ?_
  rintro e w11 ⟨rfl, b11⟩
  replace b11 := below_call b10 b11
  clear b10
  go_wp2_with fail
  have r1 : Row enS 1 ((w11.alloc (Obj.cells #[Value.string ⟨#[98, 98]⟩, Value.string ⟨#[97]⟩] 9)).alloc (Obj.cells #[Value.string ⟨#[97]⟩, Value.string ⟨#[99]⟩] 9)) (.slice (some ⟨w11.heap.size, 0, none⟩) 2 2) [⟨#[98, 98]⟩, ⟨#[97]⟩] :=
    ((Own.lit (base := 0) enS_len w11 [⟨#[98, 98]⟩, ⟨#[97]⟩] _ 2 rfl rfl (Nat.zero_le _) (by omega)).alloc _).row
  have r2 : Row enS 1 ((w11.alloc (Obj.cells #[Value.string ⟨#[98, 98]⟩, Value.string ⟨#[97]⟩] 9)).alloc (Obj.cells #[Value.string ⟨#[97]⟩, Value.string ⟨#[99]⟩] 9)) (.slice (some ⟨w11.heap.size + 1, 0, none⟩) 2 2) [⟨#[97]⟩, ⟨#[99]⟩] := by
    have := (Own.lit (e := 9) (base := 0) enS_len (w11.alloc (Obj.cells #[Value.string ⟨#[98, 98]⟩, Value.string ⟨#[97]⟩] 9)) [⟨#[97]⟩, ⟨#[99]⟩] #[Value.string ⟨#[97]⟩, Value.string ⟨#[99]⟩] 2 rfl rfl (Nat.zero_le _) (by omega)).row
    rw [show (w11.alloc (Obj.cells #[Value.string ⟨#[98, 98]⟩, Value.string ⟨#[97]⟩] 9)).heap.size = w11.heap.size + 1 from Array.size_push ..] at this
    exact this
  refine (Merge_calls 2 2 2 2 _ _ _ _ _ r1 r2 (by omega) (by omega)).mono ?_
  rintro e w12 ⟨v, rfl, hv, b12⟩
  replace hv : Row enS 1 w12 v [⟨#[97]⟩, ⟨#[99]⟩, ⟨#[98, 98]⟩] := by
    have h : mergeS [⟨#[98, 98]⟩, ⟨#[97]⟩] [⟨#[97]⟩, ⟨#[99]⟩] = [⟨#[97]⟩, ⟨#[99]⟩, ⟨#[98, 98]⟩] := by decide +kernel
    rw [← h]; exact hv
  obtain ⟨A, n, c, rfl⟩ : ∃ A n c, v = .slice A n c := by obtain ⟨A, c, rfl, _⟩ := hv; exact ⟨_, _, _, rfl⟩
  have b12' : Below w.heap.size w w12 := below_call (below_alloc (below_alloc b11 _) _) b12
  clear b12 b11 r1 r2
  go_wp2_with fail
  refine (refSame_calls n c 3 3 _ _ _ [⟨#[97]⟩, ⟨#[99]⟩, ⟨#[98, 98]⟩] _ (hv.below (below_alloc (Below.refl _ _) _)) (Own.lit (base := 0) enS_len w12 [⟨#[97]⟩, ⟨#[99]⟩, ⟨#[98, 98]⟩] _ 3 rfl rfl (Nat.zero_le _) (by omega)).row).mono ?_
  rintro e w13 ⟨rfl, b13⟩
  replace b13 := below_call (below_alloc b12' _) b13
  clear b12'
  rw [show decide (([⟨#[97]⟩, ⟨#[99]⟩, ⟨#[98, 98]⟩] : List ByteArray) = [⟨#[97]⟩, ⟨#[99]⟩, ⟨#[98, 98]⟩]) = true from decide_eq_true rfl]
  go_wp2
  go_ret
  exact ⟨rfl, b13⟩
end Go.Proofs.Ytobhlcogopcbdaa
