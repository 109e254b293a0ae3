/-
Layer 2: the sum of bytes; one step, by the program and by the document's answer.
-/
import Derived.Test.YtobhlcogopcbdaaVarA
import Derived.Laws.BitsLemmas
set_option linter.unusedVariables false
set_option linter.unusedSimpArgs false
namespace Go.Proofs.Ytobhlcogopcbdaa
open Go.RowKit
namespace Sp
def crcBit (x : Nat) : Nat := if x % 2 = 1 then (x / 2) ^^^ 3988292384 else x / 2
def crcIter : Nat → Nat → Nat
  | 0, x => x
  | n + 1, x => crcBit (crcIter n x)
def crcStep (c b : Nat) : Nat := crcIter 8 (c ^^^ b)
theorem crcBit_lt (x : Nat) (h : x < 4294967296) : crcBit x < 4294967296 := by
  unfold crcBit
  split
  · have : (x / 2) ^^^ 3988292384 < 2 ^ 32 := Nat.xor_lt_two_pow (by omega) (by omega)
    omega
  · omega
theorem crcIter_lt (x : Nat) (h : x < 4294967296) : ∀ n, crcIter n x < 4294967296
  | 0 => h
  | n + 1 => crcBit_lt _ (crcIter_lt x h n)
theorem xor_lt32 (c b : Nat) (hc : c < 4294967296) (hb : b < 4294967296) : c ^^^ b < 4294967296 := by
  have : c ^^^ b < 2 ^ 32 := Nat.xor_lt_two_pow (by omega) (by omega)
  omega
theorem crcStep_lt (c b : Nat) (hc : c < 4294967296) (hb : b < 256) : crcStep c b < 4294967296 := crcIter_lt _ (xor_lt32 c b hc (by omega)) 8
end Sp
open Sp

theorem bits_xor_u32_nat (a b : Nat) (ha : a < 4294967296) (hb : b < 4294967296) : bits .xor .u32 (a : Int) (b : Int) = ((a ^^^ b : Nat) : Int) := by
  have hx : a ^^^ b < 2 ^ 32 := Nat.xor_lt_two_pow (by omega) (by omega)
  have h1 : (BitVec.ofInt 32 (a : Int)).toNat = a := by
    rw [BitVec.ofInt_natCast, BitVec.toNat_ofNat]; exact Nat.mod_eq_of_lt (by omega)
  have h2 : (BitVec.ofInt 32 (b : Int)).toNat = b := by
    rw [BitVec.ofInt_natCast, BitVec.toNat_ofNat]; exact Nat.mod_eq_of_lt (by omega)
  show IntKind.u32.wrap ((BitVec.ofInt 32 (a : Int) ^^^ BitVec.ofInt 32 (b : Int)).toNat : Int) = _
  rw [BitVec.toNat_xor, h1, h2, IntKind.wrap_u32]
  omega
theorem bits_and_u32_nat (a b : Nat) (ha : a < 4294967296) (hb : b < 4294967296) : bits .and .u32 (a : Int) (b : Int) = ((a &&& b : Nat) : Int) :=
  (bits_nat .u32 32 (by decide) (fun n h0 h1 => by rw [IntKind.wrap_u32]; omega) a b (by omega) (by omega)).1

theorem bit_ref (x : Nat) (h : x < 4294967296) (h2 : x % 2 = 1) : bits .xor .u32 ((x : Int) / 2) 3988292384 = ((crcBit x : Nat) : Int) := by
  have e : ((x : Int) / 2) = ((x / 2 : Nat) : Int) := by omega
  rw [e, show (3988292384 : Int) = ((3988292384 : Nat) : Int) from rfl, bits_xor_u32_nat _ _ (by omega) (by omega), crcBit, if_pos h2]
theorem bit_prog (x : Nat) (h : x < 4294967296) :
    bits .xor .u32 ((x : Int) / 2) (bits .and .u32 3988292384 (-bits .and .u32 (x : Int) 1 % 4294967296)) = ((crcBit x : Nat) : Int) := by
  have e : ((x : Int) / 2) = ((x / 2 : Nat) : Int) := by omega
  have a1 : bits .and .u32 (x : Int) 1 = ((x % 2 : Nat) : Int) := by
    rw [show (1 : Int) = ((1 : Nat) : Int) from rfl, bits_and_u32_nat _ _ h (by omega), Nat.and_one_is_mod]
  rw [e, a1, crcBit]
  by_cases h2 : x % 2 = 1
  · rw [if_pos h2, h2]
    rw [show (-((1 : Nat) : Int) % 4294967296) = ((4294967295 : Nat) : Int) from by decide, show (3988292384 : Int) = ((3988292384 : Nat) : Int) from rfl, bits_and_u32_nat _ _ (by omega) (by omega), show (3988292384 &&& 4294967295 : Nat) = 3988292384 by decide, bits_xor_u32_nat _ _ (by omega) (by omega)]
  · rw [if_neg h2, show x % 2 = 0 by omega]
    rw [show (-((0 : Nat) : Int) % 4294967296) = ((0 : Nat) : Int) from by decide, show (3988292384 : Int) = ((3988292384 : Nat) : Int) from rfl, bits_and_u32_nat _ _ (by omega) (by omega), show (3988292384 &&& 0 : Nat) = 0 by decide, bits_xor_u32_nat _ _ (by omega) (by omega), Nat.xor_zero]

set_option maxHeartbeats 1000000 in
set_option maxRecDepth 100000 in
theorem refStep_calls (c b : Nat) (w : World) (hc : c < 4294967296) (hb : b < 256) :
    Calls Try.prog 83 #[.int .u32 c, .int .u8 b] w fun e w' => e = .returned (.int .u32 (crcStep c b : Nat)) ∧ w = w' := by
  have hx0 : bits .xor .u32 (c : Int) (b : Int) = ((c ^^^ b : Nat) : Int) := bits_xor_u32_nat c b hc (by omega)
  have hx1 := xor_lt32 c b hc (by omega)
  have HX0 := Lib.hid hx0
  have HX1 := Lib.hid hx1
  clear hx0 hx1
  go_enter Try.func83, Try.ntmps83
  go_wp2
  go_loop [6, 5] (fun v6 v5 => ∃ i x : Nat, v6 = .int .i64 i ∧ i ≤ 8 ∧ v5 = .int .u32 x ∧ x < 4294967296 ∧ Hid (x = crcIter i (c ^^^ b))) (fun v6 _ => (8 - intOf v6).toNat)
  case atStart => exact ⟨0, c ^^^ b, rfl, by omega, val_int HX0.out, HX1.out, rfl⟩
  case round =>
    obtain ⟨i, x, rfl, hi, rfl, hx, HX⟩ := hrel
    have HN : Hid (crcBit x = crcIter (i + 1) (c ^^^ b)) := by show _ = _; rw [HX.out]; rfl
    have hlt2 := crcBit_lt x hx
    by_cases hlt : i < 8
    · by_cases h2 : x % 2 = 1
      · have HE := Lib.hid (bit_ref x hx h2)
        go_wp2
        exact ⟨⟨i + 1, crcBit x, by go_num, by omega, val_int HE.out, hlt2, HN.out⟩, by simp [intOf]; omega⟩
      · have HE : Hid (crcBit x = x / 2) := by show _ = _; rw [crcBit, if_neg h2]
        have h3 : x % 2 < 1 := by omega
        clear h2
        go_wp2
        exact ⟨⟨i + 1, crcBit x, by go_num, by omega, val_int (by rw [HE.out]; omega), hlt2, HN.out⟩, by simp [intOf]; omega⟩
    · have HE : Hid (x = crcStep c b) := by show _ = _; rw [HX.out, show i = 8 by omega]; rfl
      go_wp2
      go_ret
      exact ⟨ret_int (by rw [← HE.out]), rfl⟩

set_option maxHeartbeats 1000000 in
set_option maxRecDepth 100000 in
theorem step_calls (c b : Nat) (w : World) (hc : c < 4294967296) (hb : b < 256) :
    Calls Try.prog 101 #[.int .u32 c, .int .u8 b] w fun e w' => e = .returned (.int .u32 (crcStep c b : Nat)) ∧ w = w' := by
  have hx0 : bits .xor .u32 (c : Int) (b : Int) = ((c ^^^ b : Nat) : Int) := bits_xor_u32_nat c b hc (by omega)
  have hx1 := xor_lt32 c b hc (by omega)
  have HX0 := Lib.hid hx0
  have HX1 := Lib.hid hx1
  clear hx0 hx1
  go_enter Try.func101, Try.ntmps101
  go_wp2
  go_loop [10, 5] (fun v6 v5 => ∃ i x : Nat, v6 = .int .i64 i ∧ i ≤ 8 ∧ v5 = .int .u32 x ∧ x < 4294967296 ∧ Hid (x = crcIter i (c ^^^ b))) (fun v6 _ => (8 - intOf v6).toNat)
  case atStart => exact ⟨0, c ^^^ b, rfl, by omega, val_int HX0.out, HX1.out, rfl⟩
  case round =>
    obtain ⟨i, x, rfl, hi, rfl, hx, HX⟩ := hrel
    have HN : Hid (crcBit x = crcIter (i + 1) (c ^^^ b)) := by show _ = _; rw [HX.out]; rfl
    have hlt2 := crcBit_lt x hx
    by_cases hlt : i < 8
    · have HE := Lib.hid (bit_prog x hx)
      go_wp2
      exact ⟨⟨i + 1, crcBit x, by go_num, by omega, val_int HE.out, hlt2, HN.out⟩, by simp [intOf]; omega⟩
    · have HE : Hid (x = crcStep c b) := by show _ = _; rw [HX.out, show i = 8 by omega]; rfl
      go_wp2
      go_ret
      exact ⟨ret_int (by rw [← HE.out]), rfl⟩
end Go.Proofs.Ytobhlcogopcbdaa
