/-
Contracts: texts behind their lengths: 'Put', 'Text', 'Take' of the program and of the reference.
-/
import Derived.Test.YtcopiimflloooaaVarB
namespace Go.Proofs.Ytcopiimflloooaa
open Go.RowKit Sp

set_option maxRecDepth 100000 in
theorem refPut_calls (n : Nat) (w : World) (hn : n < lim64) :
    Calls Try.prog 68 #[.int .u64 n] w fun e w' => e = .returned (.string (strOf (putV n))) ∧ Below w.heap.size w w' := by
  have HN := Lib.hid hn
  clear hn
  go_enter Try.func68, Try.ntmps68
  go_wp2
  go_loopw [0, 3] (fun v0 v3 wr => ∃ (m : Nat) (acc : List UInt8), v0 = .int .u64 m ∧ Own enB 1 5 wr w.heap.size v3 acc ∧ Below w.heap.size w wr ∧ acc ++ putV m = putV n ∧ m ≤ n) (fun v0 _ _ => (intOf v0).toNat)
  case atStart => exact ⟨n, [], rfl, World.ownsRow_lit (size := 1) w #[] 0 (Nat.le_refl _) (by simp [maxLen]) rfl, (Below.refl _ _).alloc (Nat.le_refl _) _, rfl, Nat.le_refl _⟩
  case round =>
    obtain ⟨m, acc, rfl, hO, hB, hacc, hm⟩ := hrel
    have HA := Lib.hid hacc
    have hlen : acc.length + (putV m).length ≤ 10 := by
      rw [← List.length_append, hacc]
      exact putV_len n (by have := HN.out; unfold lim64 at this; exact this)
    have hpos := putV_len_pos m
    clear hacc
    by_cases h128 : 128 ≤ m
    · have hwq : IntKind.u64.wrap ((m : Int) / 128) = (m : Int) / 128 := by
        have := HN.out
        unfold lim64 at this
        rw [IntKind.wrap_u64]
        omega
      have hcs : enB (UInt8.ofNat (m % 128 + 128)) = [.int .u8 (128 + (m : Int) % 128)] := by
        rw [enB_nat _ (by omega)]
        congr 2
        omega
      have HC := Lib.hid hcs
      clear hcs
      go_wp2_with (at_builtin; refine Own.append (w0 := w) w.heap.size rfl (.tmp 7) (.tmp 12) 85 5 (.int .u8 0) 1 1 rfl Try.underlying85 info_u8 rfl (by decide) u3 acc (UInt8.ofNat (m % 128 + 128)) [.int .u8 (128 + (m : Int) % 128)] rfl rfl HC.out rfl (by simp [Value.oneCell']) hO hB hB.size (by omega) (by omega) ?_; intro v1 w1 hO1 hB1 _ _)
      go_roundw
      case rel =>
        refine ⟨m / 128, _, by go_num, hO1, hB1, ?_, by omega⟩
        rw [← HA.out, putV_big h128, List.append_assoc]
        rfl
      case measure => simp [intOf]; omega
    · have hcs : enB (UInt8.ofNat m) = [.int .u8 (m : Int)] := enB_nat _ (by omega)
      have HC := Lib.hid hcs
      clear hcs
      go_wp2_with (at_builtin; refine Own.append (w0 := w) w.heap.size rfl (.tmp 16) (.tmp 19) 85 5 (.int .u8 0) 1 1 rfl Try.underlying85 info_u8 rfl (by decide) u3 acc (UInt8.ofNat m) [.int .u8 (m : Int)] rfl rfl HC.out rfl (by simp [Value.oneCell']) hO hB hB.size (by omega) (by omega) ?_; intro v1 w1 hO1 hB1 _ _; have hcv := hO1.row.string (P := Try.prog) Try.underlying85 Try.underlying5 Try.underlying9)
      go_ret
      refine ⟨ret_str (b := strOf (putV n)) ?_, hB1⟩
      rw [← HA.out, putV_small (by omega)]

theorem textV_eq (s : ByteArray) : strOf (putV s.size) ++ s = textV s := by
  rw [append_strOf, strOf_list]
  rfl
theorem textV_size (s : ByteArray) (hs : s.size ≤ 140737488351232) : (textV s).size ≤ s.size + 10 := by
  have h1 := putV_len s.size (by omega)
  have h2 : (textV s).size = (putV s.size).length + s.data.toList.length := by unfold textV; rw [size_ofList, List.length_append]
  rw [h2, ← size_eq_length]
  omega

set_option maxRecDepth 100000 in
theorem varText_calls (s : ByteArray) (w : World) (hs : s.size ≤ 140737488351232) :
    Calls Try.prog 96 #[.string s] w fun e w' => e = .returned (.string (textV s)) ∧ Below w.heap.size w w' := by
  have hw : IntKind.u64.wrap (s.size : Int) = s.size := by rw [IntKind.wrap_u64]; omega
  have hl : (strOf (putV s.size)).size ≤ 10 := by rw [strOf_size]; exact putV_len _ (by omega)
  go_enter Try.func96, Try.ntmps96
  go_wp2_with fail
  refine (varPut_calls s.size _ (by unfold lim64; omega)).mono ?_
  rintro e w' ⟨rfl, hb⟩
  go_wp2
  go_ret
  exact ⟨ret_str (textV_eq s), hb⟩

set_option maxRecDepth 100000 in
theorem refText_calls (s : ByteArray) (w : World) (hs : s.size ≤ 140737488351232) :
    Calls Try.prog 97 #[.string s] w fun e w' => e = .returned (.string (textV s)) ∧ Below w.heap.size w w' := by
  have hw : IntKind.u64.wrap (s.size : Int) = s.size := by rw [IntKind.wrap_u64]; omega
  have hl : (strOf (putV s.size)).size ≤ 10 := by rw [strOf_size]; exact putV_len _ (by omega)
  go_enter Try.func97, Try.ntmps97
  go_wp2_with fail
  refine (refPut_calls s.size _ (by unfold lim64; omega)).mono ?_
  rintro e w' ⟨rfl, hb⟩
  go_wp2
  go_ret
  exact ⟨ret_str (textV_eq s), hb⟩

/-! ### Take -/
theorem getV_ok (s : ByteArray) (a : Int) (n : Nat) (to : Int) (h : getV s a = (n, to, 0)) : 0 ≤ a ∧ a < to ∧ to ≤ s.size ∧ n < 18446744073709551616 := by
  by_cases ho : a < 0 ∨ (s.size : Int) < a
  · rw [getV_out s a ho] at h
    simp at h
  · obtain ⟨m, rfl⟩ := Int.eq_ofNat_of_zero_le (show 0 ≤ a by omega)
    have hm : m ≤ s.size := by omega
    have key : ∀ k i n0 : Nat, GetAt s m i n0 (128 ^ i) → s.size - (m + i) = k → (m : Int) < to ∧ to ≤ s.size ∧ n < 18446744073709551616 := by
      intro k
      induction k using Nat.strongRecOn with
      | _ k ih =>
        intro i n0 hG hk
        rcases Nat.lt_or_ge (m + i) s.size with hl | hl
        · by_cases h1 : i = 9 ∧ 1 < s[m + i].toNat
          · obtain ⟨rfl, h1⟩ := h1
            rw [hG.form1 hl h1] at h
            simp at h
          · by_cases h2 : 128 ≤ s[m + i].toNat
            · have hi := hG.1
              have h9 : i ≠ 9 := fun e => h1 ⟨e, by omega⟩
              exact ih (s.size - (m + (i + 1))) (by omega) (i + 1) _ (by have := hG.more hl h2 h9; rwa [← Nat.pow_succ] at this) rfl
            · by_cases h3 : s[m + i].toNat = 0 ∧ 0 < i
              · rw [hG.form0 hl h3.1 h3.2] at h
                simp at h
              · have hd := hG.done hl (by omega) (by omega) (by omega)
                have hs := hG.sum_lt s[m + i].toNat (by omega)
                rw [hd] at h
                simp only [Prod.mk.injEq] at h
                omega
        · rw [hG.cut hl] at h
          simp at h
    have := key _ 0 0 (GetAt.start s m hm) rfl
    omega

/-- The answers of 'Take', way by way. -/
theorem takeV_err (s : ByteArray) (a most : Int) (n : Nat) (to e : Int) (h : getV s a = (n, to, e)) (he : e ≠ 0) : takeV s a most = (⟨#[]⟩, 0, e) := by
  simp [takeV, h, he]
theorem takeV_form (s : ByteArray) (a most : Int) (n : Nat) (to : Int) (h : getV s a = (n, to, 0)) (hm : most < 0 ∨ most < n) : takeV s a most = (⟨#[]⟩, 0, 3) := by
  simp [takeV, h, hm]
theorem takeV_cut (s : ByteArray) (a most : Int) (n : Nat) (to : Int) (h : getV s a = (n, to, 0)) (hm : ¬ (most < 0 ∨ most < n)) (hc : s.size < to.toNat + n) : takeV s a most = (⟨#[]⟩, 0, 2) := by
  simp [takeV, h, hm, hc]
theorem takeV_ok (s : ByteArray) (a most : Int) (n : Nat) (to : Int) (h : getV s a = (n, to, 0)) (hm : ¬ (most < 0 ∨ most < n)) (hc : ¬ s.size < to.toNat + n) : takeV s a most = (s.extract to.toNat (to.toNat + n), to + n, 0) := by
  simp [takeV, h, hm, hc]

theorem refGet_is (s : ByteArray) (a : Int) (n : Nat) (to er : Int) (w : World) (hs : s.size ≤ 140737488351232) (hg : Hid (getV s a = (n, to, er))) :
    Calls Try.prog 77 #[.string s, .int .i64 a] w fun e w' => e = .returned (.tuple #[.int .u64 n, .int .i64 to, .int .i64 er]) ∧ w = w' := by
  have := refGet_calls s a w hs
  rwa [hg.out] at this
theorem varGet_is (s : ByteArray) (a : Int) (n : Nat) (to er : Int) (w : World) (hs : s.size ≤ 140737488351232) (hg : Hid (getV s a = (n, to, er))) :
    Calls Try.prog 74 #[.string s, .int .i64 a] w fun e w' => e = .returned (.tuple #[.int .u64 n, .int .i64 to, .int .i64 er]) ∧ w = w' := by
  have := varGet_calls s a w hs
  rwa [hg.out] at this

set_option maxRecDepth 100000 in
set_option maxHeartbeats 400000 in
theorem refTake_calls (s : ByteArray) (a most : Int) (w : World) (hs : s.size ≤ 140737488351232) (hm : most ≤ 1048576) (hm0 : -1048576 ≤ most) :
    Calls Try.prog 102 #[.string s, .int .i64 a, .int .i64 most] w fun e w' => e = .returned (.tuple #[.string (takeV s a most).1, .int .i64 (takeV s a most).2.1, .int .i64 (takeV s a most).2.2]) ∧ w = w' := by
  obtain ⟨n, to, er, hg⟩ : ∃ n to er, getV s a = (n, to, er) := ⟨_, _, _, rfl⟩
  by_cases he : er = 0
  · subst he
    obtain ⟨h0, h1, h2, h3⟩ := getV_ok s a n to hg
    have H3 := Lib.hid h3
    clear h3
    obtain ⟨k, rfl⟩ := Int.eq_ofNat_of_zero_le (show 0 ≤ to by omega)
    have HG := Lib.hid hg
    clear hg
    by_cases hf : most < 0 ∨ most < n
    · have HV : Hid (takeV s a most = (⟨#[]⟩, 0, 3)) := takeV_form s a most n k HG.out hf
      obtain hf | ⟨hf0, hf⟩ : most < 0 ∨ 0 ≤ most ∧ most < n := by omega
      · go_enter Try.func102, Try.ntmps102
        go_wp2_with fail
        refine (refGet_is s a n _ _ _ hs HG).mono ?_
        rintro e w' ⟨rfl, rfl⟩
        go_wp2
        go_ret3
        rw [HV.out]
        exact ⟨rfl, rfl⟩
      · have hw : IntKind.u64.wrap most = most := by rw [IntKind.wrap_u64]; omega
        go_enter Try.func102, Try.ntmps102
        go_wp2_with fail
        refine (refGet_is s a n _ _ _ hs HG).mono ?_
        rintro e w' ⟨rfl, rfl⟩
        go_wp2
        go_ret3
        rw [HV.out]
        exact ⟨rfl, rfl⟩
    · obtain ⟨hf0, hf1⟩ : 0 ≤ most ∧ (n : Int) ≤ most := by omega
      have hw : IntKind.u64.wrap most = most := by rw [IntKind.wrap_u64]; omega
      have hw2 : IntKind.u64.wrap ((s.size : Int) - k) = (s.size : Int) - k := by rw [IntKind.wrap_u64]; omega
      by_cases hc : s.size < k + n
      · have HV : Hid (takeV s a most = (⟨#[]⟩, 0, 2)) := takeV_cut s a most n k HG.out hf (by simpa using hc)
        clear hf
        go_enter Try.func102, Try.ntmps102
        go_wp2_with fail
        refine (refGet_is s a n _ _ _ hs HG).mono ?_
        rintro e w' ⟨rfl, rfl⟩
        go_wp2
        go_ret3
        rw [HV.out]
        exact ⟨rfl, rfl⟩
      · have HV : Hid (takeV s a most = (s.extract k (k + n), (k : Int) + n, 0)) := takeV_ok s a most n k HG.out hf (by simpa using hc)
        clear hf
        go_enter Try.func102, Try.ntmps102
        go_wp2_with fail
        refine (refGet_is s a n _ _ _ hs HG).mono ?_
        rintro e w' ⟨rfl, rfl⟩
        go_wp2
        go_ret3
        rw [HV.out]
        exact ⟨rfl, rfl⟩
  · have HV : Hid (takeV s a most = (⟨#[]⟩, 0, er)) := takeV_err s a most n to er hg he
    have hb : (er != 0) = true := by simpa using he
    have HG := Lib.hid hg
    clear hg
    have HE := Lib.hid he
    clear he
    go_enter Try.func102, Try.ntmps102
    go_wp2_with fail
    refine (refGet_is s a n _ _ _ hs HG).mono ?_
    rintro e w' ⟨rfl, rfl⟩
    go_wp2
    go_ret3
    rw [HV.out]
    exact ⟨rfl, rfl⟩

set_option maxRecDepth 100000 in
set_option maxHeartbeats 400000 in
theorem varTake_calls (s : ByteArray) (a most : Int) (w : World) (hs : s.size ≤ 140737488351232) (hm : most ≤ 1048576) (hm0 : -1048576 ≤ most) :
    Calls Try.prog 101 #[.string s, .int .i64 a, .int .i64 most] w fun e w' => e = .returned (.tuple #[.string (takeV s a most).1, .int .i64 (takeV s a most).2.1, .int .i64 (takeV s a most).2.2]) ∧ w = w' := by
  obtain ⟨n, to, er, hg⟩ : ∃ n to er, getV s a = (n, to, er) := ⟨_, _, _, rfl⟩
  by_cases he : er = 0
  · subst he
    obtain ⟨h0, h1, h2, h3⟩ := getV_ok s a n to hg
    have H3 := Lib.hid h3
    clear h3
    obtain ⟨k, rfl⟩ := Int.eq_ofNat_of_zero_le (show 0 ≤ to by omega)
    have HG := Lib.hid hg
    clear hg
    by_cases hf : most < 0 ∨ most < n
    · have HV : Hid (takeV s a most = (⟨#[]⟩, 0, 3)) := takeV_form s a most n k HG.out hf
      obtain hf | ⟨hf0, hf⟩ : most < 0 ∨ 0 ≤ most ∧ most < n := by omega
      · go_enter Try.func101, Try.ntmps101
        go_wp2_with fail
        refine (varGet_is s a n _ _ _ hs HG).mono ?_
        rintro e w' ⟨rfl, rfl⟩
        go_wp2
        go_ret3
        rw [HV.out]
        exact ⟨rfl, rfl⟩
      · have hw : IntKind.u64.wrap most = most := by rw [IntKind.wrap_u64]; omega
        go_enter Try.func101, Try.ntmps101
        go_wp2_with fail
        refine (varGet_is s a n _ _ _ hs HG).mono ?_
        rintro e w' ⟨rfl, rfl⟩
        go_wp2
        go_ret3
        rw [HV.out]
        exact ⟨rfl, rfl⟩
    · obtain ⟨hf0, hf1⟩ : 0 ≤ most ∧ (n : Int) ≤ most := by omega
      have hw : IntKind.u64.wrap most = most := by rw [IntKind.wrap_u64]; omega
      have hw2 : IntKind.u64.wrap ((s.size : Int) - k) = (s.size : Int) - k := by rw [IntKind.wrap_u64]; omega
      by_cases hc : s.size < k + n
      · have HV : Hid (takeV s a most = (⟨#[]⟩, 0, 2)) := takeV_cut s a most n k HG.out hf (by simpa using hc)
        clear hf
        go_enter Try.func101, Try.ntmps101
        go_wp2_with fail
        refine (varGet_is s a n _ _ _ hs HG).mono ?_
        rintro e w' ⟨rfl, rfl⟩
        go_wp2
        go_ret3
        rw [HV.out]
        exact ⟨rfl, rfl⟩
      · have HV : Hid (takeV s a most = (s.extract k (k + n), (k : Int) + n, 0)) := takeV_ok s a most n k HG.out hf (by simpa using hc)
        clear hf
        go_enter Try.func101, Try.ntmps101
        go_wp2_with fail
        refine (varGet_is s a n _ _ _ hs HG).mono ?_
        rintro e w' ⟨rfl, rfl⟩
        go_wp2
        go_ret3
        rw [HV.out]
        exact ⟨rfl, rfl⟩
  · have HV : Hid (takeV s a most = (⟨#[]⟩, 0, er)) := takeV_err s a most n to er hg he
    have hb : (er != 0) = true := by simpa using he
    have HG := Lib.hid hg
    clear hg
    have HE := Lib.hid he
    clear he
    go_enter Try.func101, Try.ntmps101
    go_wp2_with fail
    refine (varGet_is s a n _ _ _ hs HG).mono ?_
    rintro e w' ⟨rfl, rfl⟩
    go_wp2
    go_ret3
    rw [HV.out]
    exact ⟨rfl, rfl⟩
end Go.Proofs.Ytcopiimflloooaa
