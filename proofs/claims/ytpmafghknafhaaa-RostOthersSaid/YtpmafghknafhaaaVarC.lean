/-
Contracts: texts behind their lengths: 'Put', 'Text', 'Take' of the program and of the reference.
-/
import Derived.Test.YtpmafghknafhaaaVarB
namespace Go.Proofs.Ytpmafghknafhaaa
open Go.RowKit Sp

theorem textV_eq (s : ByteArray) : strOf (putV s.size) ++ s = textV s := by
  rw [append_strOf, strOf_list]
  rfl
theorem textV_size (s : ByteArray) (hs : s.size ≤ 140737488351232) : (textV s).size ≤ s.size + 10 := by
  have h1 := putV_len s.size (by omega)
  have h2 : (textV s).size = (putV s.size).length + s.data.toList.length := by unfold textV; rw [size_ofList, List.length_append]
  rw [h2, ← size_eq_length]
  omega

/-! ### Take -/
theorem getV_ok (s : ByteArray) (a : Int) (n : Nat) (to : Int) (h : getV s a = (n, to, 0)) : 0 ≤ a ∧ a < to ∧ to ≤ s.size ∧ n < 18446744073709551616 := by
  by_cases ho : a < 0 ∨ (s.size : Int) < a
  · rw [getV_out s a ho] at h
    simp at h
  · obtain ⟨m, rfl⟩ := Int.eq_ofNat_of_zero_le (show 0 ≤ a by omega)
    have hm : m ≤ s.size := by omega
    have key : ∀ k i n0 : Nat, GetAt s m i n0 (128 ^ i) → s.size - (m + i) = k → (m : Int) < to ∧ to ≤ s.size ∧ n < 18446744073709551616 := by
      intro k
      induction k using Nat.strongRecOn with
      | _ k ih =>
        intro i n0 hG hk
        rcases Nat.lt_or_ge (m + i) s.size with hl | hl
        · by_cases h1 : i = 9 ∧ 1 < s[m + i].toNat
          · obtain ⟨rfl, h1⟩ := h1
            rw [hG.form1 hl h1] at h
            simp at h
          · by_cases h2 : 128 ≤ s[m + i].toNat
            · have hi := hG.1
              have h9 : i ≠ 9 := fun e => h1 ⟨e, by omega⟩
              exact ih (s.size - (m + (i + 1))) (by omega) (i + 1) _ (by have := hG.more hl h2 h9; rwa [← Nat.pow_succ] at this) rfl
            · by_cases h3 : s[m + i].toNat = 0 ∧ 0 < i
              · rw [hG.form0 hl h3.1 h3.2] at h
                simp at h
              · have hd := hG.done hl (by omega) (by omega) (by omega)
                have hs := hG.sum_lt s[m + i].toNat (by omega)
                rw [hd] at h
                simp only [Prod.mk.injEq] at h
                omega
        · rw [hG.cut hl] at h
          simp at h
    have := key _ 0 0 (GetAt.start s m hm) rfl
    omega

/-- The answers of 'Take', way by way. -/
theorem takeV_err (s : ByteArray) (a most : Int) (n : Nat) (to e : Int) (h : getV s a = (n, to, e)) (he : e ≠ 0) : takeV s a most = (⟨#[]⟩, 0, e) := by
  simp [takeV, h, he]
theorem takeV_form (s : ByteArray) (a most : Int) (n : Nat) (to : Int) (h : getV s a = (n, to, 0)) (hm : most < 0 ∨ most < n) : takeV s a most = (⟨#[]⟩, 0, 3) := by
  simp [takeV, h, hm]
theorem takeV_cut (s : ByteArray) (a most : Int) (n : Nat) (to : Int) (h : getV s a = (n, to, 0)) (hm : ¬ (most < 0 ∨ most < n)) (hc : s.size < to.toNat + n) : takeV s a most = (⟨#[]⟩, 0, 2) := by
  simp [takeV, h, hm, hc]
theorem takeV_ok (s : ByteArray) (a most : Int) (n : Nat) (to : Int) (h : getV s a = (n, to, 0)) (hm : ¬ (most < 0 ∨ most < n)) (hc : ¬ s.size < to.toNat + n) : takeV s a most = (s.extract to.toNat (to.toNat + n), to + n, 0) := by
  simp [takeV, h, hm, hc]

end Go.Proofs.Ytpmafghknafhaaa
