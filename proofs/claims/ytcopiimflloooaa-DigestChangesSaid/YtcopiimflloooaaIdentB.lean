/-
Contracts: a name put and taken, of the program and of the reference.
-/
import Derived.Test.YtcopiimflloooaaIdentA
import Derived.Test.YtcopiimflloooaaVarC
namespace Go.Proofs.Ytcopiimflloooaa
open Go.RowKit Sp

theorem takeV_size (s : ByteArray) (a : Int) (m : Nat) (h : (takeV s a m).2.2 = 0) : (takeV s a m).1.size ≤ m ∧ 0 ≤ a ∧ a ≤ (takeV s a m).2.1 ∧ (takeV s a m).2.1 ≤ s.size := by
  obtain ⟨n, to, er, hg⟩ : ∃ n to er, getV s a = (n, to, er) := ⟨_, _, _, rfl⟩
  by_cases he : er = 0
  · subst he
    obtain ⟨h0, h1, h2, h3⟩ := getV_ok s a n to hg
    by_cases hf : (m : Int) < 0 ∨ (m : Int) < n
    · rw [takeV_form s a m n to hg hf] at h; simp at h
    · by_cases hc : s.size < to.toNat + n
      · rw [takeV_cut s a m n to hg hf hc] at h; simp at h
      · rw [takeV_ok s a m n to hg hf hc]
        simp only [ByteArray.size_extract]
        omega
  · rw [takeV_err s a m n to er hg he] at h
    exact absurd h he


set_option maxRecDepth 100000 in
theorem identPut_calls (s : ByteArray) (w : World) (hs : s.size ≤ 140737488351232) :
    Calls Try.prog 65 #[.string s] w fun e w' => e = .returned (.tuple #[.string (putN s).1, .bool (putN s).2]) ∧ Below w.heap.size w w' := by
  cases hn : isName s with
  | true =>
    have HV : Hid (putN s = (textV s, true)) := by show _ = _; simp [putN, hn]
    have HN := Lib.hid hn
    clear hn
    go_enter Try.func65, Try.ntmps65
    go_wp2_with fail
    refine (re_ (Is_calls s _ hs) (ret_bool HN.out)).mono ?_
    rintro e w1 ⟨rfl, hb1⟩
    go_wp2_with fail
    refine (varText_calls s _ hs).mono ?_
    rintro e w2 ⟨rfl, hb2⟩
    go_wp2
    go_ret2
    rw [HV.out]
    exact ⟨rfl, below_call hb1 hb2⟩
  | false =>
    have HV : Hid (putN s = (⟨#[]⟩, false)) := by show _ = _; simp [putN, hn]
    have HN := Lib.hid hn
    clear hn
    go_enter Try.func65, Try.ntmps65
    go_wp2_with fail
    refine (re_ (Is_calls s _ hs) (ret_bool HN.out)).mono ?_
    rintro e w1 ⟨rfl, hb1⟩
    go_wp2
    go_ret2
    rw [HV.out]
    exact ⟨rfl, hb1⟩

set_option maxRecDepth 100000 in
theorem refNPut_calls (s : ByteArray) (w : World) (hs : s.size ≤ 140737488351232) :
    Calls Try.prog 69 #[.string s] w fun e w' => e = .returned (.tuple #[.string (putN s).1, .bool (putN s).2]) ∧ Below w.heap.size w w' := by
  cases hn : isName s with
  | true =>
    have HV : Hid (putN s = (textV s, true)) := by show _ = _; simp [putN, hn]
    have HN := Lib.hid hn
    clear hn
    go_enter Try.func69, Try.ntmps69
    go_wp2_with fail
    refine (re_ (refIs_calls s _ hs) (ret_bool HN.out)).mono ?_
    rintro e w1 ⟨rfl, rfl⟩
    go_wp2_with fail
    refine (refText_calls s _ hs).mono ?_
    rintro e w2 ⟨rfl, hb2⟩
    go_wp2
    go_ret2
    rw [HV.out]
    exact ⟨rfl, hb2⟩
  | false =>
    have HV : Hid (putN s = (⟨#[]⟩, false)) := by show _ = _; simp [putN, hn]
    have HN := Lib.hid hn
    clear hn
    go_enter Try.func69, Try.ntmps69
    go_wp2_with fail
    refine (re_ (refIs_calls s _ hs) (ret_bool HN.out)).mono ?_
    rintro e w1 ⟨rfl, rfl⟩
    go_wp2
    go_ret2
    rw [HV.out]
    exact ⟨rfl, Below.refl _ _⟩

set_option maxRecDepth 100000 in
theorem identTake_calls (s : ByteArray) (a : Int) (w : World) (hs : s.size ≤ 140737488351232) :
    Calls Try.prog 75 #[.string s, .int .i64 a] w fun e w' => e = .returned (.tuple #[.string (takeN s a).1, .int .i64 (takeN s a).2.1, .int .i64 (takeN s a).2.2]) ∧ Below w.heap.size w w' := by
  have hsz := takeV_size s a 16
  obtain ⟨t, to, er, ht⟩ : ∃ t to er, takeV s a ((16 : Nat) : Int) = (t, to, er) := ⟨_, _, _, rfl⟩
  rw [ht] at hsz
  have HT : Hid (takeV s a 16 = (t, to, er)) := ht
  clear ht
  by_cases he : er = 0
  · subst he
    obtain ⟨z1, z2, z3, z4⟩ := hsz rfl
    simp only at z1 z3 z4
    cases hn : isName t with
    | true =>
      have HV : Hid (takeN s a = (t, to, 0)) := by show _ = _; simp [takeN, HT.out, hn]
      have HN := Lib.hid hn
      clear hn hsz
      go_enter Try.func75, Try.ntmps75
      go_wp2_with fail
      refine (re_ (varTake_calls s a 16 _ hs (by omega) (by omega)) (v' := .returned (.tuple #[.string t, .int .i64 to, .int .i64 0])) (by rw [HT.out])).mono ?_
      rintro e w1 ⟨rfl, rfl⟩
      go_wp2_with fail
      refine (re_ (Is_calls t _ (by omega)) (ret_bool HN.out)).mono ?_
      rintro e w1 ⟨rfl, hb1⟩
      go_wp2
      go_ret3
      rw [HV.out]
      exact ⟨rfl, hb1⟩
    | false =>
      have HV : Hid (takeN s a = (⟨#[]⟩, 0, 3)) := by show _ = _; simp [takeN, HT.out, hn]
      have HN := Lib.hid hn
      clear hn hsz
      go_enter Try.func75, Try.ntmps75
      go_wp2_with fail
      refine (re_ (varTake_calls s a 16 _ hs (by omega) (by omega)) (v' := .returned (.tuple #[.string t, .int .i64 to, .int .i64 0])) (by rw [HT.out])).mono ?_
      rintro e w1 ⟨rfl, rfl⟩
      go_wp2_with fail
      refine (re_ (Is_calls t _ (by omega)) (ret_bool HN.out)).mono ?_
      rintro e w1 ⟨rfl, hb1⟩
      go_wp2
      go_ret3
      rw [HV.out]
      exact ⟨rfl, hb1⟩
  · have HV : Hid (takeN s a = (⟨#[]⟩, 0, er)) := by show _ = _; simp [takeN, HT.out, he]
    have hb : (er != 0) = true := by simpa using he
    have HE := Lib.hid he
    clear he hsz
    go_enter Try.func75, Try.ntmps75
    go_wp2_with fail
    refine (re_ (varTake_calls s a 16 _ hs (by omega) (by omega)) (v' := .returned (.tuple #[.string t, .int .i64 to, .int .i64 er])) (by rw [HT.out])).mono ?_
    rintro e w1 ⟨rfl, rfl⟩
    go_wp2
    go_ret3
    rw [HV.out]
    exact ⟨rfl, Below.refl _ _⟩

set_option maxRecDepth 100000 in
theorem refNTake_calls (s : ByteArray) (a : Int) (w : World) (hs : s.size ≤ 140737488351232) :
    Calls Try.prog 78 #[.string s, .int .i64 a] w fun e w' => e = .returned (.tuple #[.string (takeN s a).1, .int .i64 (takeN s a).2.1, .int .i64 (takeN s a).2.2]) ∧ Below w.heap.size w w' := by
  have hsz := takeV_size s a 16
  obtain ⟨t, to, er, ht⟩ : ∃ t to er, takeV s a ((16 : Nat) : Int) = (t, to, er) := ⟨_, _, _, rfl⟩
  rw [ht] at hsz
  have HT : Hid (takeV s a 16 = (t, to, er)) := ht
  clear ht
  by_cases he : er = 0
  · subst he
    obtain ⟨z1, z2, z3, z4⟩ := hsz rfl
    simp only at z1 z3 z4
    cases hn : isName t with
    | true =>
      have HV : Hid (takeN s a = (t, to, 0)) := by show _ = _; simp [takeN, HT.out, hn]
      have HN := Lib.hid hn
      clear hn hsz
      go_enter Try.func78, Try.ntmps78
      go_wp2_with fail
      refine (re_ (refTake_calls s a 16 _ hs (by omega) (by omega)) (v' := .returned (.tuple #[.string t, .int .i64 to, .int .i64 0])) (by rw [HT.out])).mono ?_
      rintro e w1 ⟨rfl, rfl⟩
      go_wp2_with fail
      refine (re_ (refIs_calls t _ (by omega)) (ret_bool HN.out)).mono ?_
      rintro e w1 ⟨rfl, rfl⟩
      go_wp2
      go_ret3
      rw [HV.out]
      exact ⟨rfl, Below.refl _ _⟩
    | false =>
      have HV : Hid (takeN s a = (⟨#[]⟩, 0, 3)) := by show _ = _; simp [takeN, HT.out, hn]
      have HN := Lib.hid hn
      clear hn hsz
      go_enter Try.func78, Try.ntmps78
      go_wp2_with fail
      refine (re_ (refTake_calls s a 16 _ hs (by omega) (by omega)) (v' := .returned (.tuple #[.string t, .int .i64 to, .int .i64 0])) (by rw [HT.out])).mono ?_
      rintro e w1 ⟨rfl, rfl⟩
      go_wp2_with fail
      refine (re_ (refIs_calls t _ (by omega)) (ret_bool HN.out)).mono ?_
      rintro e w1 ⟨rfl, rfl⟩
      go_wp2
      go_ret3
      rw [HV.out]
      exact ⟨rfl, Below.refl _ _⟩
  · have HV : Hid (takeN s a = (⟨#[]⟩, 0, er)) := by show _ = _; simp [takeN, HT.out, he]
    have hb : (er != 0) = true := by simpa using he
    have HE := Lib.hid he
    clear he hsz
    go_enter Try.func78, Try.ntmps78
    go_wp2_with fail
    refine (re_ (refTake_calls s a 16 _ hs (by omega) (by omega)) (v' := .returned (.tuple #[.string t, .int .i64 to, .int .i64 er])) (by rw [HT.out])).mono ?_
    rintro e w1 ⟨rfl, rfl⟩
    go_wp2
    go_ret3
    rw [HV.out]
    exact ⟨rfl, Below.refl _ _⟩
end Go.Proofs.Ytcopiimflloooaa
