/-
Contracts: a name put and taken, of the program and of the reference.
-/
import Derived.Test.YtpmafghknafhaaaIdentA
import Derived.Test.YtpmafghknafhaaaVarC
namespace Go.Proofs.Ytpmafghknafhaaa
open Go.RowKit Sp

theorem takeV_size (s : ByteArray) (a : Int) (m : Nat) (h : (takeV s a m).2.2 = 0) : (takeV s a m).1.size ≤ m ∧ 0 ≤ a ∧ a ≤ (takeV s a m).2.1 ∧ (takeV s a m).2.1 ≤ s.size := by
  obtain ⟨n, to, er, hg⟩ : ∃ n to er, getV s a = (n, to, er) := ⟨_, _, _, rfl⟩
  by_cases he : er = 0
  · subst he
    obtain ⟨h0, h1, h2, h3⟩ := getV_ok s a n to hg
    by_cases hf : (m : Int) < 0 ∨ (m : Int) < n
    · rw [takeV_form s a m n to hg hf] at h; simp at h
    · by_cases hc : s.size < to.toNat + n
      · rw [takeV_cut s a m n to hg hf hc] at h; simp at h
      · rw [takeV_ok s a m n to hg hf hc]
        simp only [ByteArray.size_extract]
        omega
  · rw [takeV_err s a m n to er hg he] at h
    exact absurd h he


end Go.Proofs.Ytpmafghknafhaaa
