/-
Contracts: how a number is read, of the program ('Get' goes to a label).
-/
import Derived.Test.YtpmafghknafhaaaVarA
import Derived.WalkMore
import Derived.ScopeJumps
import Derived.Laws.Bits64b
namespace Go.Proofs.Ytpmafghknafhaaa
open Go.RowKit Sp

theorem andNot128 (m : Nat) (h : m < 256) : bits .andNot .u8 (m : Int) 128 = ((m % 128 : Nat) : Int) := by
  have key : ∀ m : Fin 256, bits .andNot .u8 ((m : Nat) : Int) 128 = (((m : Nat) % 128 : Nat) : Int) := by decide +kernel
  exact key ⟨m, h⟩
theorem pow_word (i : Nat) : ((2 : Int) ^ (7 * i)) = ((128 ^ i : Nat) : Int) := by
  rw [show (128 : Nat) = 2 ^ 7 by decide, ← Nat.pow_mul]
  simp
theorem sum_lt9 (n b i : Nat) (hn : n < 128 ^ i) (hi : i ≤ 9) (h9 : i = 9 → b ≤ 1) : n + b % 128 * 128 ^ i < 18446744073709551616 := by
  rcases Nat.lt_or_ge i 9 with h8 | h9'
  · have : (128 : Nat) ^ i ≤ 128 ^ 8 := Nat.pow_le_pow_right (by omega) (by omega)
    have h9 : (128 : Nat) ^ 8 = 72057594037927936 := by decide
    have : b % 128 * 128 ^ i ≤ 127 * 128 ^ i := Nat.mul_le_mul_right _ (by omega)
    omega
  · obtain rfl : i = 9 := by omega
    have h9'' : (128 : Nat) ^ 9 = 9223372036854775808 := by decide
    have := h9 rfl
    have : b % 128 * 128 ^ 9 ≤ 1 * 128 ^ 9 := Nat.mul_le_mul_right _ (by omega)
    omega
/-- What '|=' makes of a number and the next seven bits. -/
theorem or_word (n b i : Nat) (hn : n < 128 ^ i) (hi : i ≤ 9) (hb : b < 256) (h9 : i = 9 → b ≤ 1) (x q : Int) (hx : x = (b : Int)) (hq : q = ((128 ^ i : Nat) : Int)) :
    bits .or .u64 (n : Int) (IntKind.u64.wrap (IntKind.u64.wrap (bits .andNot .u8 x 128) * q)) = ((n + b % 128 * 128 ^ i : Nat) : Int) := by
  subst hx hq
  have h0 := sum_lt9 n b i hn hi h9
  rw [andNot128 b hb, IntKind.wrap_u64, IntKind.wrap_u64]
  have e1 : ((b % 128 : Nat) : Int) % 18446744073709551616 = ((b % 128 : Nat) : Int) := by omega
  rw [e1, ← Int.natCast_mul]
  have e2 : ((b % 128 * 128 ^ i : Nat) : Int) % 18446744073709551616 = ((b % 128 * 128 ^ i : Nat) : Int) := by
    generalize b % 128 * 128 ^ i = q at *
    omega
  rw [e2, bits_or_u64_nat _ _ (by omega) (by omega)]
  congr 1
  have hp : (128 : Nat) ^ i = 2 ^ (7 * i) := by rw [show (128 : Nat) = 2 ^ 7 by decide, ← Nat.pow_mul]
  rw [hp] at hn ⊢
  rw [Nat.or_comm, Nat.mul_comm (b % 128), ← Nat.two_pow_add_eq_or_of_lt hn, Nat.add_comm]

/-- What holds at every jump. -/
def GetRel (s : ByteArray) (m : Nat) (w : World) (a' : Act) (w' : World) : Prop :=
  w = w' ∧ ∃ (i n : Nat) (u9 u10 u11 u12 u13 u14 u15 u16 u17 u18 u19 u20 u21 u22 u23 u24 u25 u26 u27 u28 u29 u30 u31 u32 u33 u34 u35 u36 u37 u38 u39 u40 u41 u42 u43 u44 u45 u46 : Value), a' = { tmps := #[.string s, .int .i64 m, undef, undef, .int .u64 0, .int .i64 0, .int .i64 0, .int .u64 n, .int .i64 i, u9, u10, u11, u12, u13, u14, u15, u16, u17, u18, u19, u20, u21, u22, u23, u24, u25, u26, u27, u28, u29, u30, u31, u32, u33, u34, u35, u36, u37, u38, u39, u40, u41, u42, u43, u44, u45, u46, undef, undef, undef, undef, undef, undef, undef, undef, undef, undef], defers := [] } ∧ Hid (GetAt s m i n (128 ^ i)) ∧ i ≤ 9

end Go.Proofs.Ytpmafghknafhaaa
