/-
Layer 2: the sum of bytes; one step, by the program and by the document's answer.
-/
import Derived.Test.YtcopiimflloooaaVarA
import Derived.Laws.BitsLemmas
set_option linter.unusedVariables false
set_option linter.unusedSimpArgs false
namespace Go.Proofs.Ytcopiimflloooaa
open Go.RowKit
namespace Sp
def crcBit (x : Nat) : Nat := if x % 2 = 1 then (x / 2) ^^^ 3988292384 else x / 2
def crcIter : Nat → Nat → Nat
  | 0, x => x
  | n + 1, x => crcBit (crcIter n x)
def crcStep (c b : Nat) : Nat := crcIter 8 (c ^^^ b)
theorem crcBit_lt (x : Nat) (h : x < 4294967296) : crcBit x < 4294967296 := by
  unfold crcBit
  split
  · have : (x / 2) ^^^ 3988292384 < 2 ^ 32 := Nat.xor_lt_two_pow (by omega) (by omega)
    omega
  · omega
theorem crcIter_lt (x : Nat) (h : x < 4294967296) : ∀ n, crcIter n x < 4294967296
  | 0 => h
  | n + 1 => crcBit_lt _ (crcIter_lt x h n)
theorem xor_lt32 (c b : Nat) (hc : c < 4294967296) (hb : b < 4294967296) : c ^^^ b < 4294967296 := by
  have : c ^^^ b < 2 ^ 32 := Nat.xor_lt_two_pow (by omega) (by omega)
  omega
theorem crcStep_lt (c b : Nat) (hc : c < 4294967296) (hb : b < 256) : crcStep c b < 4294967296 := crcIter_lt _ (xor_lt32 c b hc (by omega)) 8
end Sp
open Sp

theorem bits_xor_u32_nat (a b : Nat) (ha : a < 4294967296) (hb : b < 4294967296) : bits .xor .u32 (a : Int) (b : Int) = ((a ^^^ b : Nat) : Int) := by
  have hx : a ^^^ b < 2 ^ 32 := Nat.xor_lt_two_pow (by omega) (by omega)
  have h1 : (BitVec.ofInt 32 (a : Int)).toNat = a := by
    rw [BitVec.ofInt_natCast, BitVec.toNat_ofNat]; exact Nat.mod_eq_of_lt (by omega)
  have h2 : (BitVec.ofInt 32 (b : Int)).toNat = b := by
    rw [BitVec.ofInt_natCast, BitVec.toNat_ofNat]; exact Nat.mod_eq_of_lt (by omega)
  show IntKind.u32.wrap ((BitVec.ofInt 32 (a : Int) ^^^ BitVec.ofInt 32 (b : Int)).toNat : Int) = _
  rw [BitVec.toNat_xor, h1, h2, IntKind.wrap_u32]
  omega
theorem bits_and_u32_nat (a b : Nat) (ha : a < 4294967296) (hb : b < 4294967296) : bits .and .u32 (a : Int) (b : Int) = ((a &&& b : Nat) : Int) :=
  (bits_nat .u32 32 (by decide) (fun n h0 h1 => by rw [IntKind.wrap_u32]; omega) a b (by omega) (by omega)).1

theorem bit_ref (x : Nat) (h : x < 4294967296) (h2 : x % 2 = 1) : bits .xor .u32 ((x : Int) / 2) 3988292384 = ((crcBit x : Nat) : Int) := by
  have e : ((x : Int) / 2) = ((x / 2 : Nat) : Int) := by omega
  rw [e, show (3988292384 : Int) = ((3988292384 : Nat) : Int) from rfl, bits_xor_u32_nat _ _ (by omega) (by omega), crcBit, if_pos h2]
theorem bit_prog (x : Nat) (h : x < 4294967296) :
    bits .xor .u32 ((x : Int) / 2) (bits .and .u32 3988292384 (-bits .and .u32 (x : Int) 1 % 4294967296)) = ((crcBit x : Nat) : Int) := by
  have e : ((x : Int) / 2) = ((x / 2 : Nat) : Int) := by omega
  have a1 : bits .and .u32 (x : Int) 1 = ((x % 2 : Nat) : Int) := by
    rw [show (1 : Int) = ((1 : Nat) : Int) from rfl, bits_and_u32_nat _ _ h (by omega), Nat.and_one_is_mod]
  rw [e, a1, crcBit]
  by_cases h2 : x % 2 = 1
  · rw [if_pos h2, h2]
    rw [show (-((1 : Nat) : Int) % 4294967296) = ((4294967295 : Nat) : Int) from by decide, show (3988292384 : Int) = ((3988292384 : Nat) : Int) from rfl, bits_and_u32_nat _ _ (by omega) (by omega), show (3988292384 &&& 4294967295 : Nat) = 3988292384 by decide, bits_xor_u32_nat _ _ (by omega) (by omega)]
  · rw [if_neg h2, show x % 2 = 0 by omega]
    rw [show (-((0 : Nat) : Int) % 4294967296) = ((0 : Nat) : Int) from by decide, show (3988292384 : Int) = ((3988292384 : Nat) : Int) from rfl, bits_and_u32_nat _ _ (by omega) (by omega), show (3988292384 &&& 0 : Nat) = 0 by decide, bits_xor_u32_nat _ _ (by omega) (by omega), Nat.xor_zero]

end Go.Proofs.Ytcopiimflloooaa
