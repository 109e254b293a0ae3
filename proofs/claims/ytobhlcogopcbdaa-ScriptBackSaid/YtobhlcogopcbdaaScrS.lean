/-
Plain: what is taken is what was put: numbers, texts, names, values; both readings of an event are one.
-/
import Derived.Test.YtobhlcogopcbdaaScrR
set_option linter.unusedVariables false
set_option linter.unusedSimpArgs false
namespace Go.Proofs.Ytobhlcogopcbdaa
open Go.RowKit
open Sp
namespace Sp
theorem getL_text : ∀ (l : List UInt8) (i n N k : Nat), getL l i n = some (some (N, k)) → ∃ M rest, l = putV M ++ rest ∧ N = n + M * 128 ^ i ∧ k = i + (putV M).length ∧ (0 < i → 0 < M)
  | [], i, n, N, k, h => by simp [getL] at h
  | b :: l, i, n, N, k, h => by
    have hb := b.toNat_lt
    rw [getL] at h
    split at h
    · simp at h
    · split at h
      · rename_i h1 h2
        obtain ⟨M', rest, e1, e2, e3, e4⟩ := getL_text l (i + 1) _ N k h
        have hM := e4 (by omega)
        refine ⟨b.toNat % 128 + 128 * M', rest, ?_, ?_, ?_, fun _ => by omega⟩
        · rw [putV_big (n := b.toNat % 128 + 128 * M') (by omega), e1]
          have hb2 : UInt8.ofNat ((b.toNat % 128 + 128 * M') % 128 + 128) = b := by
            rw [show (b.toNat % 128 + 128 * M') % 128 + 128 = b.toNat by omega]
            exact UInt8.ofNat_toNat
          rw [hb2, show (b.toNat % 128 + 128 * M') / 128 = M' by omega]
          rfl
        · rw [e2, Nat.pow_succ, Nat.add_mul, show M' * (128 ^ i * 128) = 128 * M' * 128 ^ i by rw [Nat.mul_comm (128 ^ i) 128, ← Nat.mul_assoc, Nat.mul_comm M' 128]]
          omega
        · rw [e3, putV_big (n := b.toNat % 128 + 128 * M') (by omega), show (b.toNat % 128 + 128 * M') / 128 = M' by omega]
          simp; omega
      · split at h
        · simp at h
        · rename_i h1 h2 h3
          simp only [Option.some.injEq, Prod.mk.injEq] at h
          obtain ⟨rfl, rfl⟩ := h
          refine ⟨b.toNat, l, ?_, ?_, ?_, fun _ => by omega⟩
          · rw [putV_small (by omega), UInt8.ofNat_toNat]; rfl
          · rw [Nat.mod_eq_of_lt (by omega)]
          · rw [putV_small (by omega)]; rfl
theorem getV_text (s : ByteArray) (a : Int) (n : Nat) (to : Int) (h : getV s a = (n, to, 0)) : s.data.toList.drop a.toNat = putV n ++ s.data.toList.drop to.toNat ∧ to.toNat = a.toNat + (putV n).length := by
  have hok := getV_ok s a n to h
  obtain ⟨m, rfl⟩ := Int.eq_ofNat_of_zero_le hok.1
  rw [getV_in s m (by omega)] at h
  cases hg : getL (s.data.toList.drop m) 0 0 with
  | none => rw [hg] at h; simp [getR] at h
  | some r =>
    cases r with
    | none => rw [hg] at h; simp [getR] at h
    | some p =>
      obtain ⟨N, k⟩ := p
      rw [hg] at h
      simp only [getR, Prod.mk.injEq] at h
      obtain ⟨rfl, rfl, _⟩ := h
      obtain ⟨M, rest, e1, e2, e3, _⟩ := getL_text _ _ _ _ _ hg
      have hNM : N = M := by rw [e2]; simp
      subst hNM
      have hk : ((m : Int) + (k : Int)).toNat = m + (putV N).length := by rw [e3]; omega
      refine ⟨?_, by rw [hk, Int.toNat_natCast]⟩
      rw [hk, Int.toNat_natCast, ← List.drop_drop, e1, List.drop_left]
theorem takeV_text (s : ByteArray) (a : Int) (m : Nat) (t : ByteArray) (to : Int) (h : takeV s a m = (t, to, 0)) : s.data.toList.drop a.toNat = (textV t).data.toList ++ s.data.toList.drop to.toNat ∧ to.toNat = a.toNat + (textV t).size := by
  obtain ⟨n, fr, er, hg⟩ : ∃ n fr er, getV s a = (n, fr, er) := ⟨_, _, _, rfl⟩
  by_cases he : er = 0
  · subst he
    by_cases h1 : (m : Int) < 0 ∨ (m : Int) < n
    · rw [takeV_form s a m n fr hg h1] at h; simp at h
    · by_cases h2 : s.size < fr.toNat + n
      · rw [takeV_cut s a m n fr hg h1 h2] at h; simp at h
      · rw [takeV_ok s a m n fr hg h1 h2] at h
        simp only [Prod.mk.injEq] at h
        obtain ⟨rfl, rfl, _⟩ := h
        obtain ⟨e1, e2⟩ := getV_text s a n fr hg
        have hok := getV_ok s a n fr hg
        have hsz : (s.extract fr.toNat (fr.toNat + n)).size = n := by rw [ByteArray.size_extract]; omega
        have hto : (fr + (n : Int)).toNat = fr.toNat + n := by omega
        have hd : (s.extract fr.toNat (fr.toNat + n)).data.toList = (s.data.toList.drop fr.toNat).take n := by
          rw [ByteArray.data_extract, Array.toList_extract]
          simp [List.extract]
        constructor
        · rw [e1, hto]
          show _ = (putV (s.extract fr.toNat (fr.toNat + n)).size ++ _ : List UInt8).toArray.toList ++ _
          rw [hsz, hd]
          simp only [List.append_assoc]
          congr 1
          rw [← List.drop_drop, List.take_append_drop]
        · have : (textV (s.extract fr.toNat (fr.toNat + n))).size = (putV n).length + n := by
            rw [size_eq_length]
            show (putV (s.extract fr.toNat (fr.toNat + n)).size ++ _ : List UInt8).toArray.toList.length = _
            rw [hsz]; simp only [List.toList_toArray, List.length_append, ← size_eq_length, hsz]
          rw [this]; omega
  · rw [takeV_err s a m n fr er hg he] at h
    simp only [Prod.mk.injEq] at h
    exact absurd h.2.2 he
theorem takeN_text (s : ByteArray) (a : Int) (t : ByteArray) (to : Int) (h : takeN s a = (t, to, 0)) : s.data.toList.drop a.toNat = (textV t).data.toList ++ s.data.toList.drop to.toNat ∧ to.toNat = a.toNat + (textV t).size := by
  refine takeV_text s a 16 t to ?_
  simp only [takeN] at h
  split at h
  · rename_i h1
    injection h with _ h2
    injection h2 with _ h3
    exact absurd h3 h1
  · split at h
    · exact h
    · injection h with _ h2
      injection h2 with _ h3
      cases h3
theorem takeN_bad (s : ByteArray) (a : Int) (t : ByteArray) (to er : Int) (h : takeN s a = (t, to, er)) (he : er ≠ 0) : t = ⟨#[]⟩ := by
  simp only [takeN] at h
  split at h
  · injection h with h1 _; exact h1.symm
  · rename_i h1
    split at h
    · rw [h] at h1; exact absurd h1 (by simpa using he)
    · injection h with h1 _; exact h1.symm
end Sp
end Go.Proofs.Ytobhlcogopcbdaa
