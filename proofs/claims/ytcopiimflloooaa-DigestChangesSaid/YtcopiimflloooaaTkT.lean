/-
Plain: numbers, texts, names, values: what was put is taken, and what is taken is what was put.
-/
import Derived.Test.YtcopiimflloooaaSpecD
import Derived.Test.YtcopiimflloooaaValF
set_option linter.unusedVariables false
set_option linter.unusedSimpArgs false
namespace Go.Proofs.Ytcopiimflloooaa
open Go.RowKit
open Sp
namespace Sp.Tk
def byteAt (s : ByteArray) (i : Nat) : Int := ((s.data.toList.getD i 0).toNat : Int)
theorem byteAt_is (s : ByteArray) (i : Nat) (h : i < s.size) : byteAt s i = ((s[i]'h).toNat : Int) := by
  unfold byteAt
  have hl : i < s.data.toList.length := by rw [← size_eq_length]; exact h
  rw [List.getD_eq_getElem?_getD, List.getElem?_eq_getElem hl]; rfl
theorem getL_text : ∀ (l : List UInt8) (i n N k : Nat), getL l i n = some (some (N, k)) → ∃ M rest, l = putV M ++ rest ∧ N = n + M * 128 ^ i ∧ k = i + (putV M).length ∧ (0 < i → 0 < M)
  | [], i, n, N, k, h => by simp [getL] at h
  | b :: l, i, n, N, k, h => by
    have hb := b.toNat_lt
    rw [getL] at h
    split at h
    · simp at h
    · split at h
      · rename_i h1 h2
        obtain ⟨M', rest, e1, e2, e3, e4⟩ := getL_text l (i + 1) _ N k h
        have hM := e4 (by omega)
        refine ⟨b.toNat % 128 + 128 * M', rest, ?_, ?_, ?_, fun _ => by omega⟩
        · rw [putV_big (n := b.toNat % 128 + 128 * M') (by omega), e1]
          have hb2 : UInt8.ofNat ((b.toNat % 128 + 128 * M') % 128 + 128) = b := by
            rw [show (b.toNat % 128 + 128 * M') % 128 + 128 = b.toNat by omega]
            exact UInt8.ofNat_toNat
          rw [hb2, show (b.toNat % 128 + 128 * M') / 128 = M' by omega]
          rfl
        · rw [e2, Nat.pow_succ, Nat.add_mul, show M' * (128 ^ i * 128) = 128 * M' * 128 ^ i by rw [Nat.mul_comm (128 ^ i) 128, ← Nat.mul_assoc, Nat.mul_comm M' 128]]
          omega
        · rw [e3, putV_big (n := b.toNat % 128 + 128 * M') (by omega), show (b.toNat % 128 + 128 * M') / 128 = M' by omega]
          simp; omega
      · split at h
        · simp at h
        · rename_i h1 h2 h3
          simp only [Option.some.injEq, Prod.mk.injEq] at h
          obtain ⟨rfl, rfl⟩ := h
          refine ⟨b.toNat, l, ?_, ?_, ?_, fun _ => by omega⟩
          · rw [putV_small (by omega), UInt8.ofNat_toNat]; rfl
          · rw [Nat.mod_eq_of_lt (by omega)]
          · rw [putV_small (by omega)]; rfl
theorem getV_text (s : ByteArray) (a : Int) (n : Nat) (to : Int) (h : getV s a = (n, to, 0)) : s.data.toList.drop a.toNat = putV n ++ s.data.toList.drop to.toNat ∧ to.toNat = a.toNat + (putV n).length := by
  have hok := getV_ok s a n to h
  obtain ⟨m, rfl⟩ := Int.eq_ofNat_of_zero_le hok.1
  rw [getV_in s m (by omega)] at h
  cases hg : getL (s.data.toList.drop m) 0 0 with
  | none => rw [hg] at h; simp [getR] at h
  | some r =>
    cases r with
    | none => rw [hg] at h; simp [getR] at h
    | some p =>
      obtain ⟨N, k⟩ := p
      rw [hg] at h
      simp only [getR, Prod.mk.injEq] at h
      obtain ⟨rfl, rfl, _⟩ := h
      obtain ⟨M, rest, e1, e2, e3, _⟩ := getL_text _ _ _ _ _ hg
      have hNM : N = M := by rw [e2]; simp
      subst hNM
      have hk : ((m : Int) + (k : Int)).toNat = m + (putV N).length := by rw [e3]; omega
      refine ⟨?_, by rw [hk, Int.toNat_natCast]⟩
      rw [hk, Int.toNat_natCast, ← List.drop_drop, e1, List.drop_left]
theorem takeV_text (s : ByteArray) (a : Int) (m : Nat) (t : ByteArray) (to : Int) (h : takeV s a m = (t, to, 0)) : s.data.toList.drop a.toNat = (textV t).data.toList ++ s.data.toList.drop to.toNat ∧ to.toNat = a.toNat + (textV t).size := by
  obtain ⟨n, fr, er, hg⟩ : ∃ n fr er, getV s a = (n, fr, er) := ⟨_, _, _, rfl⟩
  by_cases he : er = 0
  · subst he
    by_cases h1 : (m : Int) < 0 ∨ (m : Int) < n
    · rw [takeV_form s a m n fr hg h1] at h; simp at h
    · by_cases h2 : s.size < fr.toNat + n
      · rw [takeV_cut s a m n fr hg h1 h2] at h; simp at h
      · rw [takeV_ok s a m n fr hg h1 h2] at h
        simp only [Prod.mk.injEq] at h
        obtain ⟨rfl, rfl, _⟩ := h
        obtain ⟨e1, e2⟩ := getV_text s a n fr hg
        have hok := getV_ok s a n fr hg
        have hsz : (s.extract fr.toNat (fr.toNat + n)).size = n := by rw [ByteArray.size_extract]; omega
        have hto : (fr + (n : Int)).toNat = fr.toNat + n := by omega
        have hd : (s.extract fr.toNat (fr.toNat + n)).data.toList = (s.data.toList.drop fr.toNat).take n := by
          rw [ByteArray.data_extract, Array.toList_extract]
          simp [List.extract]
        constructor
        · rw [e1, hto]
          show _ = (putV (s.extract fr.toNat (fr.toNat + n)).size ++ _ : List UInt8).toArray.toList ++ _
          rw [hsz, hd]
          simp only [List.append_assoc]
          congr 1
          rw [← List.drop_drop, List.take_append_drop]
        · have : (textV (s.extract fr.toNat (fr.toNat + n))).size = (putV n).length + n := by
            rw [size_eq_length]
            show (putV (s.extract fr.toNat (fr.toNat + n)).size ++ _ : List UInt8).toArray.toList.length = _
            rw [hsz]; simp only [List.toList_toArray, List.length_append, ← size_eq_length, hsz]
          rw [this]; omega
  · rw [takeV_err s a m n fr er hg he] at h
    simp only [Prod.mk.injEq] at h
    exact absurd h.2.2 he
theorem takeN_text (s : ByteArray) (a : Int) (t : ByteArray) (to : Int) (h : takeN s a = (t, to, 0)) : s.data.toList.drop a.toNat = (textV t).data.toList ++ s.data.toList.drop to.toNat ∧ to.toNat = a.toNat + (textV t).size := by
  refine takeV_text s a 16 t to ?_
  simp only [takeN] at h
  split at h
  · rename_i h1
    injection h with _ h2
    injection h2 with _ h3
    exact absurd h3 h1
  · split at h
    · exact h
    · injection h with _ h2
      injection h2 with _ h3
      cases h3
theorem takeN_bad (s : ByteArray) (a : Int) (t : ByteArray) (to er : Int) (h : takeN s a = (t, to, er)) (he : er ≠ 0) : t = ⟨#[]⟩ := by
  simp only [takeN] at h
  split at h
  · injection h with h1 _; exact h1.symm
  · rename_i h1
    split at h
    · rw [h] at h1; exact absurd h1 (by simpa using he)
    · injection h with h1 _; exact h1.symm
theorem drop_at (s : ByteArray) (m : Nat) (h : m < s.size) : s.data.toList.drop m = UInt8.ofNat (byteAt s m).toNat :: s.data.toList.drop (m + 1) := by
  rw [drop_cons s m h, byteAt_is s m h, Int.toNat_natCast, UInt8.ofNat_toNat]
theorem byteAt_lt (s : ByteArray) (m : Nat) : 0 ≤ byteAt s m ∧ byteAt s m < 256 := by
  unfold byteAt
  have := (s.data.toList.getD m 0).toNat_lt
  omega
theorem takeVal_text (s : ByteArray) (a : Int) (v : PV) (to : Int) (h : takeVal s a = (v, to, 0)) :
    mayV v.1 v.2.1 v.2.2.1 v.2.2.2 = true ∧ 0 ≤ a ∧ to ≤ s.size ∧ s.data.toList.drop a.toNat = (putVal v.1 v.2.1 v.2.2.1 v.2.2.2).1.data.toList ++ s.data.toList.drop to.toNat ∧ to.toNat = a.toNat + (putVal v.1 v.2.1 v.2.2.1 v.2.2.2).1.size := by
  unfold takeVal at h
  split at h
  · simp at h
  · rename_i h1
    split at h
    · simp at h
    · rename_i h2
      obtain ⟨m, rfl⟩ := Int.eq_ofNat_of_zero_le (show 0 ≤ a by omega)
      obtain ⟨n, fr, er, hg⟩ : ∃ n fr er, getV s ((m : Int) + 2) = (n, fr, er) := ⟨_, _, _, rfl⟩
      simp only [hg] at h
      split at h
      · rename_i he; simp only [Prod.mk.injEq] at h; exact absurd h.2.2 he
      · rename_i he
        have he' : er = 0 := by simpa using he
        subst he'
        obtain ⟨t, to', er', ht⟩ : ∃ t to er, takeV s fr 32 = (t, to, er) := ⟨_, _, _, rfl⟩
        simp only [ht] at h
        split at h
        · rename_i he; simp only [Prod.mk.injEq] at h; exact absurd h.2.2 he
        · rename_i he
          have he' : er' = 0 := by simpa using he
          subst he'
          split at h
          · rename_i hm
            simp only [Prod.mk.injEq] at h
            obtain ⟨rfl, rfl, _⟩ := h
            simp only
            obtain ⟨e1, e2⟩ := getV_text s _ n fr hg
            obtain ⟨e3, e4⟩ := takeV_text s fr 32 t to' ht
            have hsz := (takeV_size s fr 32 (by show (takeV s fr 32).2.2 = 0; rw [ht])).2.2.2
            rw [show takeV s fr (32 : Nat) = (t, to', 0) from ht] at hsz
            refine ⟨hm, by omega, hsz, ?_, ?_⟩
            · unfold putVal
              rw [if_pos hm, Int.toNat_natCast]
              have hx : ∀ i, ((s.data.toList.getD i 0).toNat : Int) = byteAt s i := fun i => rfl
              have d1 := drop_at s m (by omega)
              have d2 := drop_at s (m + 1) (by omega)
              have b1 := byteAt_lt s m
              have b2 := byteAt_lt s (m + 1)
              rw [d1, d2, show m + 1 + 1 = ((m : Int) + 2).toNat by omega, e1, e3]
              simp only [data_append, strOf_list, valL, Int.toNat_natCast, hx]
              rw [show byteAt s (m + 1) - 128 + 128 = byteAt s (m + 1) by omega]
              simp
            · unfold putVal
              rw [if_pos hm]
              simp only [ByteArray.size_append, strOf_size, valL, List.length_cons, List.length_nil, Int.toNat_natCast]
              omega
          · simp at h
theorem takeVal_bad (s : ByteArray) (a : Int) (v : PV) (to er : Int) (h : takeVal s a = (v, to, er)) (he : er ≠ 0) : v = zeroV := by
  unfold takeVal at h
  simp only at h
  split at h
  · injection h with h1 _; exact h1.symm
  · split at h
    · injection h with h1 _; exact h1.symm
    · split at h
      · injection h with h1 _; exact h1.symm
      · split at h
        · injection h with h1 _; exact h1.symm
        · split at h
          · simp only [Prod.mk.injEq] at h; exact absurd h.2.2.symm he
          · injection h with h1 _; exact h1.symm
theorem byte_of (n : Nat) (h : n < 256) : (UInt8.ofNat n).toNat = n := by simp; omega
theorem getL_put : ∀ (n i m : Nat) (rest : List UInt8), n * 128 ^ i < 18446744073709551616 → i ≤ 9 → (0 < i → 0 < n) → getL (putV n ++ rest) i m = some (some (m + n * 128 ^ i, i + (putV n).length)) := by
  intro n
  induction n using Nat.strongRecOn with
  | ind n ih =>
    intro i m rest hn hi h0
    by_cases hs : n < 128
    · rw [putV_small hs]
      simp only [List.cons_append, List.nil_append, getL, byte_of n (by omega), List.length_cons, List.length_nil]
      rw [if_neg, if_neg (by omega), if_neg (by omega), Nat.mod_eq_of_lt hs]
      rintro ⟨rfl, h1⟩
      omega
    · have hi9 : i < 9 := by
        rcases Nat.lt_or_ge i 9 with h | h
        · exact h
        · obtain rfl : i = 9 := by omega
          omega
      rw [putV_big (by omega)]
      simp only [List.cons_append, getL, byte_of (n % 128 + 128) (by omega), List.length_cons]
      have hp : n / 128 * 128 ^ (i + 1) + n % 128 * 128 ^ i = n * 128 ^ i := by
        rw [Nat.pow_succ, show n / 128 * (128 ^ i * 128) = (n / 128 * 128) * 128 ^ i by rw [Nat.mul_comm (128 ^ i) 128, Nat.mul_assoc], ← Nat.add_mul]
        congr 1; omega
      rw [if_neg (by omega), if_pos (by omega), ih (n / 128) (by omega) (i + 1) _ rest (by omega) (by omega) (by omega)]
      congr 3
      · rw [show (n % 128 + 128) % 128 = n % 128 by omega]; omega
      · omega
theorem getV_put (s : ByteArray) (a n : Nat) (rest : List UInt8) (h : s.data.toList.drop a = putV n ++ rest) (hn : n < 18446744073709551616) : getV s a = (n, (a : Int) + (putV n).length, 0) := by
  have ha : a ≤ s.size := by
    have h1 := congrArg List.length h
    have h2 := putV_len_pos n
    rw [List.length_drop, List.length_append, ← size_eq_length] at h1
    omega
  rw [getV_in s a ha, h, getL_put n 0 0 rest (by simpa using hn) (by omega) (by omega)]
  simp [getR]
theorem textV_list (t : ByteArray) : (textV t).data.toList = putV t.size ++ t.data.toList := rfl
theorem takeV_put (s : ByteArray) (a m : Nat) (t : ByteArray) (rest : List UInt8) (h : s.data.toList.drop a = (textV t).data.toList ++ rest) (hm : t.size ≤ m) (ht : t.size < 18446744073709551616) : takeV s a m = (t, (a : Int) + (textV t).size, 0) := by
  rw [textV_list, List.append_assoc] at h
  have hg := getV_put s a t.size _ h ht
  have hsz : (textV t).size = (putV t.size).length + t.size := by rw [size_eq_length, textV_list, List.length_append, ← size_eq_length]
  have hd : s.data.toList.drop (a + (putV t.size).length) = t.data.toList ++ rest := by rw [← List.drop_drop, h, List.drop_left]
  have hl : (a + (putV t.size).length) + t.size ≤ s.size := by
    have h1 := congrArg List.length hd
    have h2 := congrArg List.length h
    have h3 := putV_len_pos t.size
    rw [List.length_drop, List.length_append, ← size_eq_length, ← size_eq_length] at h1
    rw [List.length_drop, List.length_append, List.length_append, ← size_eq_length, ← size_eq_length] at h2
    omega
  rw [takeV_ok s a m t.size _ hg (by omega) (by omega)]
  have ht2 : ((a : Int) + ((putV t.size).length : Int)).toNat = a + (putV t.size).length := by omega
  rw [ht2, hsz]
  have he : s.extract (a + (putV t.size).length) (a + (putV t.size).length + t.size) = t := by
    rw [← toList_inj, ByteArray.data_extract, Array.toList_extract]
    have : List.extract s.data.toList (a + (putV t.size).length) (a + (putV t.size).length + t.size) = (s.data.toList.drop (a + (putV t.size).length)).take t.size := by simp [List.extract]
    rw [this, hd, size_eq_length, List.take_left]
  rw [he]
  simp only [Prod.mk.injEq, true_and, and_true]
  omega
theorem takeN_put (s : ByteArray) (a : Nat) (t : ByteArray) (rest : List UInt8) (h : s.data.toList.drop a = (textV t).data.toList ++ rest) (hm : t.size ≤ 16) (ht : isName t = true) : takeN s a = (t, (a : Int) + (textV t).size, 0) := by
  have h1 := takeV_put s a 16 t rest h hm (by omega)
  simp only [takeN]
  rw [show takeV s (a : Int) 16 = (t, (a : Int) + (textV t).size, 0) from h1]
  simp [ht]
theorem getD_drop (s : ByteArray) (a : Nat) (b : UInt8) (rest : List UInt8) (h : s.data.toList.drop a = b :: rest) : s.data.toList.getD a 0 = b := by
  have h1 : (s.data.toList.drop a)[0]? = some b := by rw [h]; rfl
  rw [List.getElem?_drop, Nat.add_zero] at h1
  rw [List.getD_eq_getElem?_getD, h1]; rfl
theorem takeVal_put (s : ByteArray) (a : Nat) (k p n : Int) (t : ByteArray) (rest : List UInt8) (hm : mayV k p n t = true) (h : s.data.toList.drop a = (putVal k p n t).1.data.toList ++ rest) : takeVal s a = ((k, p, n, t), (a : Int) + (putVal k p n t).1.size, 0) := by
  obtain ⟨m1, m2, m3, m4, m5, m6, m7, _⟩ := (mayV_iff k p n t).1 hm
  have hp : (putVal k p n t).1 = strOf (valL k p n) ++ strOf (putV n.toNat) ++ textV t := by unfold putVal; rw [if_pos hm]
  rw [hp] at h ⊢
  simp only [data_append, strOf_list, valL, List.append_assoc, List.cons_append, List.nil_append] at h
  have d1 : s.data.toList.drop (a + 1) = UInt8.ofNat (p + 128).toNat :: (putV n.toNat ++ ((textV t).data.toList ++ rest)) := by rw [← List.drop_drop, h]; rfl
  have d2 : s.data.toList.drop (a + 2) = putV n.toNat ++ ((textV t).data.toList ++ rest) := by rw [show a + 2 = (a + 1) + 1 by rfl, ← List.drop_drop, d1]; rfl
  have hg := getV_put s (a + 2) n.toNat _ d2 (by omega)
  have d3 : s.data.toList.drop (a + 2 + (putV n.toNat).length) = (textV t).data.toList ++ rest := by rw [← List.drop_drop, d2, List.drop_left]
  have ht := takeV_put s (a + 2 + (putV n.toNat).length) 32 t rest d3 (by omega) (by omega)
  have hl := congrArg List.length h
  have hpos := putV_len_pos n.toNat
  simp only [List.length_drop, List.length_cons, List.length_append, ← size_eq_length] at hl
  unfold takeVal
  rw [if_neg (by omega), if_neg (by omega)]
  rw [show ((a + 2 : Nat) : Int) = (a : Int) + 2 by omega] at hg
  rw [show ((a + 2 + (putV n.toNat).length : Nat) : Int) = (a : Int) + 2 + ((putV n.toNat).length : Int) by omega, show ((32 : Nat) : Int) = 32 from rfl] at ht
  simp only [hg, ht, Int.toNat_natCast]
  rw [getD_drop s a _ _ h, getD_drop s (a + 1) _ _ d1, byte_of k.toNat (by omega), byte_of (p + 128).toNat (by omega)]
  rw [show ((k.toNat : Nat) : Int) = k by omega, show (((p + 128).toNat : Nat) : Int) - 128 = p by omega, show ((n.toNat : Nat) : Int) = n by omega]
  rw [if_neg (by simp), if_neg (by simp), if_pos hm]
  simp only [Prod.mk.injEq, true_and, and_true, ByteArray.size_append, strOf_size, valL, List.length_cons, List.length_nil]
  omega
end Sp.Tk
end Go.Proofs.Ytcopiimflloooaa
