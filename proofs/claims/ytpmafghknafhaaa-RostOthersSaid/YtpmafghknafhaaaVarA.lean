/-
Contracts: numbers as few bytes: what 'Put' and 'Text' answer, of the program and of the reference.
-/
import Derived.Test.YtpmafghknafhaaaProg
import Derived.Test.YtpmafghknafhaaaSpecB
import Derived.Test.YtpmafghknafhaaaLib
namespace Go.Proofs.Ytpmafghknafhaaa
open Go.RowKit Sp

theorem info_u8 : (Try.prog.info? 5).map (fun i => (i.zero, i.size, i.bytes)) = some (some (.int .u8 0), 1, 1) := by kernel_rfl

/-- 2^64, kept closed. -/
def lim64 : Nat := 18446744073709551616
theorem or128 (m : Nat) (h : m < 256) : bits .or .u8 (m : Int) 128 = ((m % 128 + 128 : Nat) : Int) := by
  have key : ∀ m : Fin 256, bits .or .u8 ((m : Nat) : Int) 128 = (((m : Nat) % 128 + 128 : Nat) : Int) := by decide +kernel
  exact key ⟨m, h⟩
theorem enB_nat (m : Nat) (h : m < 256) : enB (UInt8.ofNat m) = [.int .u8 (m : Int)] := by
  have : (UInt8.ofNat m).toNat = m := by simp; omega
  simp [enB, this]
theorem putV_len_pos (n : Nat) : 0 < (putV n).length := by
  rw [putV]; split <;> simp
theorem putV_len (n : Nat) (hn : n < 18446744073709551616) : (putV n).length ≤ 10 := by
  have key : ∀ k n : Nat, n < 128 ^ (k + 1) → (putV n).length ≤ k + 1 := by
    intro k
    induction k with
    | zero => intro n hn; rw [putV_small (by omega)]; simp
    | succ k ih =>
      intro n hn
      by_cases h : n < 128
      · rw [putV_small h]; simp
      · rw [putV_big (by omega)]
        have : n / 128 < 128 ^ (k + 1) := by rw [Nat.pow_succ] at hn; omega
        have := ih (n / 128) this
        simp; omega
  exact key 9 n (by omega)

end Go.Proofs.Ytpmafghknafhaaa
