/-
Layer 2: the sum of a text's bytes.
-/
import Derived.Test.YtobhlcogopcbdaaCrcA
set_option linter.unusedVariables false
set_option linter.unusedSimpArgs false
namespace Go.Proofs.Ytobhlcogopcbdaa
open Go.RowKit
namespace Sp
def crcFold (l : List UInt8) (c : Nat) : Nat := l.foldl (fun c b => crcStep c b.toNat) c
theorem crcFold_lt : ∀ (l : List UInt8) (c : Nat), c < 4294967296 → crcFold l c < 4294967296
  | [], c, h => h
  | b :: l, c, h => crcFold_lt l (crcStep c b.toNat) (crcStep_lt c b.toNat h (UInt8.toNat_lt b))
theorem crcFold_succ (l : List UInt8) (c k : Nat) (h : k < l.length) : crcFold (l.take (k + 1)) c = crcStep (crcFold (l.take k) c) (l[k]).toNat := by
  unfold crcFold
  rw [List.take_succ_eq_append_getElem h, List.foldl_append]
  rfl
def crcSum (l : List UInt8) : Nat := crcFold l 4294967295 ^^^ 4294967295
theorem crcSum_lt (l : List UInt8) : crcSum l < 4294967296 := xor_lt32 _ _ (crcFold_lt l _ (by omega)) (by omega)
end Sp
open Sp

set_option maxHeartbeats 1000000 in
set_option maxRecDepth 100000 in
theorem refSum_calls (s : ByteArray) (w : World) (hs : s.size ≤ 140737488351232) :
    Calls Try.prog 62 #[.string s] w fun e w' => e = .returned (.int .u32 (crcSum s.data.toList : Nat)) ∧ w = w' := by
  go_enter Try.func62, Try.ntmps62
  go_wp2
  go_loop [4, 3] (fun v4 v3 => ∃ k x : Nat, v4 = .int .i64 k ∧ k ≤ s.size ∧ v3 = .int .u32 x ∧ x < 4294967296 ∧ Hid (x = crcFold (s.data.toList.take k) 4294967295)) (fun v4 _ => (s.size - intOf v4).toNat)
  case atStart => exact ⟨0, 4294967295, rfl, Nat.zero_le _, rfl, by omega, rfl⟩
  case round =>
    obtain ⟨k, x, rfl, hk, rfl, hx, HX⟩ := hrel
    by_cases hlt : k < s.size
    · have hk' : k < s.data.toList.length := by rw [← size_eq_length]; exact hlt
      obtain ⟨b, hbv⟩ : ∃ b, (s[k]'hlt).toNat = b := ⟨_, rfl⟩
      have hb : b < 256 := by rw [← hbv]; exact UInt8.toNat_lt _
      have HN : Hid (crcStep x b = crcFold (s.data.toList.take (k + 1)) 4294967295) := by
        show _ = _
        rw [crcFold_succ _ _ _ hk', ← HX.out, ← hbv]
        rfl
      have hlt2 := crcStep_lt x b hx hb
      go_wp2_with fail
      refine (refStep_calls x b _ hx hb).mono ?_
      rintro e w1 ⟨rfl, rfl⟩
      go_wp2
      exact ⟨⟨k + 1, crcStep x b, by go_num, by omega, rfl, hlt2, HN.out⟩, by simp [intOf]; omega⟩
    · have HE : Hid (x = crcFold s.data.toList 4294967295) := by
        show _ = _
        rw [HX.out, List.take_of_length_le (by rw [← size_eq_length]; omega)]
      have HF : Hid (bits .xor .u32 (x : Int) 4294967295 = ((crcSum s.data.toList : Nat) : Int)) := by
        show _ = _
        rw [show (4294967295 : Int) = ((4294967295 : Nat) : Int) from rfl, bits_xor_u32_nat _ _ hx (by omega), HE.out]
        rfl
      go_wp2
      go_ret
      exact ⟨ret_int HF.out, rfl⟩

set_option maxHeartbeats 1000000 in
set_option maxRecDepth 100000 in
theorem crcSum_calls (s : ByteArray) (w : World) (hs : s.size ≤ 140737488351232) :
    Calls Try.prog 84 #[.string s] w fun e w' => e = .returned (.int .u32 (crcSum s.data.toList : Nat)) ∧ Below w.heap.size w w' := by
  have kc := fun W : World => Lib.run_convert_string_bytes (P := Try.prog) W 9 39 5 s Try.underlying9 Try.underlying39 Try.underlying5
  have hmf : ∀ (fn : Fn) (first cap : Array Value) (w : World), (Instr.makeFunc fn first cap).run Try.prog w = .ok (.func fn first cap) w := fun _ _ _ _ => rfl
  go_enter Try.func84, Try.ntmps84
  go_wp2
  go_loopw [10, 3] (fun v4 v3 wr => ∃ k x : Nat, v4 = .int .i64 k ∧ k ≤ s.size ∧ v3 = .int .u32 x ∧ x < 4294967296 ∧ Hid (x = crcFold (s.data.toList.take k) 4294967295) ∧ TextRow 5 wr w.heap.size s ∧ Below w.heap.size w wr) (fun v4 _ _ => (s.size - intOf v4).toNat)
  case atStart => exact ⟨0, 4294967295, rfl, Nat.zero_le _, rfl, by omega, rfl, TextRow.new 5 w s (by simp only [maxLen]; omega), below_bytes (Below.refl _ _) (Nat.le_refl _) _ _⟩
  case round =>
    obtain ⟨k, x, rfl, hk, rfl, hx, HX, ht, hB⟩ := hrel
    by_cases hlt : k < s.size
    · have hk' : k < s.data.toList.length := by rw [← size_eq_length]; exact hlt
      obtain ⟨b, hbv⟩ : ∃ b, (s[k]'hlt).toNat = b := ⟨_, rfl⟩
      have hb : b < 256 := by rw [← hbv]; exact UInt8.toNat_lt _
      have hcell : wr.cell? ⟨w.heap.size, k, none⟩ = some (.int .u8 b) := by rw [ht.cell k hlt, hbv]
      have HN : Hid (crcStep x b = crcFold (s.data.toList.take (k + 1)) 4294967295) := by
        show _ = _
        rw [crcFold_succ _ _ _ hk', ← HX.out, ← hbv]
        rfl
      have hlt2 := crcStep_lt x b hx hb
      go_wp2_with (go_at_call 101; refine (step_calls x b _ hx hb).mono ?_; rintro e w1 ⟨rfl, rfl⟩)
      exact ⟨⟨k + 1, crcStep x b, by go_num, by omega, rfl, hlt2, HN.out, ht, hB⟩, by simp [intOf]; omega⟩
    · have HE : Hid (x = crcFold s.data.toList 4294967295) := by
        show _ = _
        rw [HX.out, List.take_of_length_le (by rw [← size_eq_length]; omega)]
      have HF : Hid (bits .xor .u32 (x : Int) 4294967295 = ((crcSum s.data.toList : Nat) : Int)) := by
        show _ = _
        rw [show (4294967295 : Int) = ((4294967295 : Nat) : Int) from rfl, bits_xor_u32_nat _ _ hx (by omega), HE.out]
        rfl
      go_wp2
      go_ret
      exact ⟨ret_int HF.out, hB⟩
end Go.Proofs.Ytobhlcogopcbdaa
