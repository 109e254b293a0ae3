/-
Layer 2: a text with its sum behind it, put and taken off.
-/
import Derived.Test.YtobhlcogopcbdaaCrcB
import Derived.Test.YtobhlcogopcbdaaBuf
set_option linter.unusedVariables false
set_option linter.unusedSimpArgs false
namespace Go.Proofs.Ytobhlcogopcbdaa
open Go.RowKit
namespace Sp
def sumL (n : Nat) : List UInt8 := [UInt8.ofNat n, UInt8.ofNat (n / 256), UInt8.ofNat (n / 65536), UInt8.ofNat (n / 16777216)]
def sealS (s : ByteArray) : ByteArray := s ++ strOf (sumL (crcSum s.data.toList))
theorem sealS_size (s : ByteArray) : (sealS s).size = s.size + 4 := by rw [sealS, ByteArray.size_append, strOf_size]; rfl
/-- The answers of 'Open'. -/
def openS (s : ByteArray) : ByteArray × Int :=
  if s.size < 4 then (⟨#[]⟩, 2) else if sealS (s.extract 0 (s.size - 4)) = s then (s.extract 0 (s.size - 4), 0) else (⟨#[]⟩, 4)
end Sp
open Sp

theorem byte_mod (n : Nat) : ((UInt8.ofNat n).toNat : Int) = (n : Int) % 256 := by simp
theorem byte_top (n : Nat) (h : n < 256) : ((UInt8.ofNat n).toNat : Int) = (n : Int) := by simp; omega

set_option maxHeartbeats 1000000 in
set_option maxRecDepth 100000 in
theorem refSeal_calls (s : ByteArray) (w : World) (hs : s.size ≤ 140737488351232) :
    Calls Try.prog 33 #[.string s] w fun e w' => e = .returned (.string (sealS s)) ∧ Below w.heap.size w w' := by
  obtain ⟨n, hn⟩ : ∃ n, crcSum s.data.toList = n := ⟨_, rfl⟩
  have hlt : n < 4294967296 := by rw [← hn]; exact crcSum_lt _
  have hrow : Row enB 1 (w.alloc (.cells #[.int .u8 ((n : Int) % 256), .int .u8 ((n : Int) / 256 % 256), .int .u8 ((n : Int) / 65536 % 256), .int .u8 ((n : Int) / 16777216)] 5)) (.slice (some ⟨w.heap.size, 0, none⟩) 4 4) (sumL n) := by
    refine (Own.lit (base := 0) enB_len w (sumL n) _ 4 ?_ rfl (Nat.zero_le _) (by omega)).row
    rw [enB_flat]
    simp only [sumL, List.map_cons, List.map_nil, byte_mod, byte_top (n / 16777216) (by omega), Int.natCast_ediv]
    rfl
  have hcv := hrow.string (P := Try.prog) Try.underlying39 Try.underlying5 Try.underlying9
  have HV : Hid (sealS s = s ++ strOf (sumL n)) := by show _ = _; rw [sealS, hn]
  have hq : (strOf (sumL n)).size ≤ 4 := by rw [strOf_size]; exact Nat.le_refl _
  have HN := Lib.hid hn
  clear hn hrow
  generalize strOf (sumL n) = q at hcv HV hq
  have hsz : s.size + q.size ≤ 140737488351239 := by omega
  go_enter Try.func33, Try.ntmps33
  go_wp2_with fail
  refine (re_ (refSum_calls s w hs) (v' := .returned (.int .u32 (n : Nat))) (by rw [HN.out])).mono ?_
  rintro e w1 ⟨rfl, rfl⟩
  go_wp2_with fail
  go_ret
  rw [HV.out]
  exact ⟨rfl, (Below.refl _ _).alloc (Nat.le_refl _) _⟩

set_option maxHeartbeats 1000000 in
set_option maxRecDepth 100000 in
theorem crcSeal_calls (s : ByteArray) (w : World) (hs : s.size ≤ 140737488351232) :
    Calls Try.prog 66 #[.string s] w fun e w' => e = .returned (.string (sealS s)) ∧ Below w.heap.size w w' := by
  obtain ⟨n, hn⟩ : ∃ n, crcSum s.data.toList = n := ⟨_, rfl⟩
  have hlt : n < 4294967296 := by rw [← hn]; exact crcSum_lt _
  have HV : Hid (sealS s = strOf (s.data.toList ++ sumL n)) := by show _ = _; rw [sealS, hn, append_strOf, strOf_list]
  have HN := Lib.hid hn
  have HSZ := Lib.hid (size_eq_length s)
  clear hn
  have kc := fun W : World => Lib.run_convert_string_bytes (P := Try.prog) W 9 39 5 s Try.underlying9 Try.underlying39 Try.underlying5
  go_enter Try.func66, Try.ntmps66
  go_wp2_with fail
  refine (re_ (crcSum_calls s _ hs) (v' := .returned (.int .u32 (n : Nat))) (by rw [HN.out])).mono ?_
  rintro e w1 ⟨rfl, b1⟩
  have hbuf := (Buf.text w s (by simp only [maxLen]; omega)).below b1
  replace b1 : Below w.heap.size w w1 := (below_bytes (Below.refl _ _) (Nat.le_refl _) 5 s).trans (b1.mono (by simp [Lib.bytesWorld, World.freeze]))
  generalize Value.slice (some ⟨w.heap.size, 0, none⟩) s.size (grownCap w s.size 0 5) = v at hbuf ⊢
  go_wp2_with fail
  go_loopw [10, 3] (fun v4 v3 wr => ∃ i : Nat, v4 = .int .i64 i ∧ i ≤ 4 ∧ Buf wr w.heap.size v3 (s.data.toList ++ (sumL n).take i) ∧ Below w.heap.size w wr) (fun v4 _ _ => (4 - intOf v4).toNat)
  case atStart => exact ⟨0, rfl, by omega, by simpa using hbuf, b1⟩
  case round =>
    clear b1 hbuf
    obtain ⟨i, rfl, hi, hb, hB⟩ := hrel
    have hlen : ((s.data.toList ++ (sumL n).take i).length) + 1 ≤ 140737488355328 := by
      have := HSZ.out
      have h2 : ((sumL n).take i).length ≤ i := List.length_take_le _ _
      rw [List.length_append]
      omega
    obtain h | h | h | h | h : i = 4 ∨ i = 0 ∨ i = 1 ∨ i = 2 ∨ i = 3 := by omega
    · subst h
      have hb4 : Buf wr w.heap.size u3 (s.data.toList ++ sumL n) := hb
      have hrow := hb4.row
      clear hb hb4
      have hcv := hrow.string (P := Try.prog) Try.underlying39 Try.underlying5 Try.underlying9
      clear hrow
      go_wp2
      go_ret
      rw [HV.out]
      exact ⟨rfl, hB⟩
    · subst h
      have HC : Hid ((.int .u8 ((n : Int) % 256) : Value) = .int .u8 ((UInt8.ofNat n).toNat : Nat)) := by show _ = _; rw [byte_mod]
      have HA : Hid ((s.data.toList ++ (sumL n).take 0) ++ [UInt8.ofNat n] = s.data.toList ++ (sumL n).take 1) := by show _ = _; rw [List.append_assoc]; rfl
      go_wp2_with (at_builtin; refine Buf.append (w0 := w) w.heap.size rfl (.tmp 13) (.tmp 19) rfl u3 _ (UInt8.ofNat n) (.int .u8 ((n : Int) % 256)) HC.out rfl rfl hb hB hB.size hlen ?_; intro v1 w1 hb1 hB1)
      rw [HA.out] at hb1
      exact ⟨⟨1, by go_num, by omega, hb1, hB1⟩, by simp [intOf]⟩
    · subst h
      have HC : Hid ((.int .u8 ((n : Int) / 256 % 256) : Value) = .int .u8 ((UInt8.ofNat (n / 256)).toNat : Nat)) := by show _ = _; rw [byte_mod, Int.natCast_ediv]; rfl
      have HA : Hid ((s.data.toList ++ (sumL n).take 1) ++ [UInt8.ofNat (n / 256)] = s.data.toList ++ (sumL n).take 2) := by show _ = _; rw [List.append_assoc]; rfl
      go_wp2_with (at_builtin; refine Buf.append (w0 := w) w.heap.size rfl (.tmp 13) (.tmp 19) rfl u3 _ (UInt8.ofNat (n / 256)) (.int .u8 ((n : Int) / 256 % 256)) HC.out rfl rfl hb hB hB.size hlen ?_; intro v1 w1 hb1 hB1)
      rw [HA.out] at hb1
      exact ⟨⟨2, by go_num, by omega, hb1, hB1⟩, by simp [intOf]⟩
    · subst h
      have HC : Hid ((.int .u8 ((n : Int) / 65536 % 256) : Value) = .int .u8 ((UInt8.ofNat (n / 65536)).toNat : Nat)) := by show _ = _; rw [byte_mod, Int.natCast_ediv]; rfl
      have HA : Hid ((s.data.toList ++ (sumL n).take 2) ++ [UInt8.ofNat (n / 65536)] = s.data.toList ++ (sumL n).take 3) := by show _ = _; rw [List.append_assoc]; rfl
      go_wp2_with (at_builtin; refine Buf.append (w0 := w) w.heap.size rfl (.tmp 13) (.tmp 19) rfl u3 _ (UInt8.ofNat (n / 65536)) (.int .u8 ((n : Int) / 65536 % 256)) HC.out rfl rfl hb hB hB.size hlen ?_; intro v1 w1 hb1 hB1)
      rw [HA.out] at hb1
      exact ⟨⟨3, by go_num, by omega, hb1, hB1⟩, by simp [intOf]⟩
    · subst h
      have HC : Hid ((.int .u8 ((n : Int) / 16777216) : Value) = .int .u8 ((UInt8.ofNat (n / 16777216)).toNat : Nat)) := by show _ = _; rw [byte_top _ (by omega), Int.natCast_ediv]; rfl
      have HA : Hid ((s.data.toList ++ (sumL n).take 3) ++ [UInt8.ofNat (n / 16777216)] = s.data.toList ++ (sumL n).take 4) := by show _ = _; rw [List.append_assoc]; rfl
      go_wp2_with (at_builtin; refine Buf.append (w0 := w) w.heap.size rfl (.tmp 13) (.tmp 19) rfl u3 _ (UInt8.ofNat (n / 16777216)) (.int .u8 ((n : Int) / 16777216)) HC.out rfl rfl hb hB hB.size hlen ?_; intro v1 w1 hb1 hB1)
      rw [HA.out] at hb1
      exact ⟨⟨4, by go_num, by omega, hb1, hB1⟩, by simp [intOf]⟩
end Go.Proofs.Ytobhlcogopcbdaa
