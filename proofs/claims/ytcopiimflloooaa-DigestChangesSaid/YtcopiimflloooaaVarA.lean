/-
Contracts: numbers as few bytes: what 'Put' and 'Text' answer, of the program and of the reference.
-/
import Derived.Test.YtcopiimflloooaaProg
import Derived.Test.YtcopiimflloooaaSpecB
import Derived.Test.YtcopiimflloooaaLib
namespace Go.Proofs.Ytcopiimflloooaa
open Go.RowKit Sp

theorem info_u8 : (Try.prog.info? 5).map (fun i => (i.zero, i.size, i.bytes)) = some (some (.int .u8 0), 1, 1) := by kernel_rfl

/-- 2^64, kept closed. -/
def lim64 : Nat := 18446744073709551616
theorem or128 (m : Nat) (h : m < 256) : bits .or .u8 (m : Int) 128 = ((m % 128 + 128 : Nat) : Int) := by
  have key : ∀ m : Fin 256, bits .or .u8 ((m : Nat) : Int) 128 = (((m : Nat) % 128 + 128 : Nat) : Int) := by decide +kernel
  exact key ⟨m, h⟩
theorem enB_nat (m : Nat) (h : m < 256) : enB (UInt8.ofNat m) = [.int .u8 (m : Int)] := by
  have : (UInt8.ofNat m).toNat = m := by simp; omega
  simp [enB, this]
theorem putV_len_pos (n : Nat) : 0 < (putV n).length := by
  rw [putV]; split <;> simp
theorem putV_len (n : Nat) (hn : n < 18446744073709551616) : (putV n).length ≤ 10 := by
  have key : ∀ k n : Nat, n < 128 ^ (k + 1) → (putV n).length ≤ k + 1 := by
    intro k
    induction k with
    | zero => intro n hn; rw [putV_small (by omega)]; simp
    | succ k ih =>
      intro n hn
      by_cases h : n < 128
      · rw [putV_small h]; simp
      · rw [putV_big (by omega)]
        have : n / 128 < 128 ^ (k + 1) := by rw [Nat.pow_succ] at hn; omega
        have := ih (n / 128) this
        simp; omega
  exact key 9 n (by omega)

set_option maxHeartbeats 1000000 in
set_option maxRecDepth 100000 in
theorem varPut_calls (n : Nat) (w : World) (hn : n < lim64) :
    Calls Try.prog 64 #[.int .u64 n] w fun e w' => e = .returned (.string (strOf (putV n))) ∧ Below w.heap.size w w' := by
  have HN := Lib.hid hn
  clear hn
  go_enter Try.func64, Try.ntmps64
  go_wp2
  go_loopw [0, 3] (fun v0 v3 wr => ∃ (m : Nat) (acc : List UInt8), v0 = .int .u64 m ∧ Own enB 1 5 wr w.heap.size v3 acc ∧ Below w.heap.size w wr ∧ acc ++ putV m = putV n ∧ m ≤ n) (fun v0 _ _ => (intOf v0).toNat)
  case atStart => exact ⟨n, [], rfl, Own.nil _ _ _ _ _, Below.refl _ _, rfl, Nat.le_refl _⟩
  case round =>
    obtain ⟨m, acc, rfl, hO, hB, hacc, hm⟩ := hrel
    have HA := Lib.hid hacc
    have hlen : acc.length + (putV m).length ≤ 10 := by
      rw [← List.length_append, hacc]
      exact putV_len n (by have := HN.out; unfold lim64 at this; exact this)
    have hpos := putV_len_pos m
    clear hacc
    by_cases h128 : 128 ≤ m
    · have hcs : enB (UInt8.ofNat (m % 128 + 128)) = [.int .u8 (bits .or .u8 ((m : Int) % 256) 128)] := by
        rw [enB_nat _ (by omega)]
        have := or128 (m % 256) (by omega)
        rw [Int.natCast_emod] at this
        have h2 : ((256 : Nat) : Int) = 256 := rfl
        rw [h2] at this
        rw [this]
        congr 4
        omega
      have HC := Lib.hid hcs
      clear hcs
      go_wp2_with (at_builtin; refine Own.append (w0 := w) w.heap.size rfl (.tmp 8) (.tmp 12) 85 5 (.int .u8 0) 1 1 rfl Try.underlying85 info_u8 rfl (by decide) u3 acc (UInt8.ofNat (m % 128 + 128)) [.int .u8 (bits .or .u8 ((m : Int) % 256) 128)] rfl rfl HC.out rfl (by simp [Value.oneCell']) hO hB hB.size (by omega) (by omega) ?_; intro v1 w1 hO1 hB1 _ _)
      go_roundw
      case rel =>
        refine ⟨m / 128, _, by go_num, hO1, hB1, ?_, by omega⟩
        rw [← HA.out, putV_big h128, List.append_assoc]
        rfl
      case measure => simp [intOf]; omega
    · have hcs : enB (UInt8.ofNat m) = [.int .u8 (m : Int)] := enB_nat _ (by omega)
      have HC := Lib.hid hcs
      clear hcs
      go_wp2_with (at_builtin; refine Own.append (w0 := w) w.heap.size rfl (.tmp 14) (.tmp 17) 85 5 (.int .u8 0) 1 1 rfl Try.underlying85 info_u8 rfl (by decide) u3 acc (UInt8.ofNat m) [.int .u8 (m : Int)] rfl rfl HC.out rfl (by simp [Value.oneCell']) hO hB hB.size (by omega) (by omega) ?_; intro v1 w1 hO1 hB1 _ _; have hcv := hO1.row.string (P := Try.prog) Try.underlying85 Try.underlying5 Try.underlying9)
      go_ret
      refine ⟨ret_str (b := strOf (putV n)) ?_, hB1⟩
      rw [← HA.out, putV_small (by omega)]

set_option maxRecDepth 100000 in
theorem refGet_calls (s : ByteArray) (a : Int) (w : World) (hs : s.size ≤ 140737488351232) :
    Calls Try.prog 77 #[.string s, .int .i64 a] w fun e w' => e = .returned (.tuple #[.int .u64 (getV s a).1, .int .i64 (getV s a).2.1, .int .i64 (getV s a).2.2]) ∧ w = w' := by
  by_cases ho : a < 0 ∨ (s.size : Int) < a
  · have HV : Hid (getV s a = (0, 0, 1)) := getV_out s a ho
    rcases ho with h | h
    · go_enter Try.func77, Try.ntmps77
      go_wp2
      go_ret3
      rw [HV.out]
      exact ⟨rfl, rfl⟩
    · have h0 : 0 ≤ a := by omega
      go_enter Try.func77, Try.ntmps77
      go_wp2
      go_ret3
      rw [HV.out]
      exact ⟨rfl, rfl⟩
  · obtain ⟨m, rfl⟩ := Int.eq_ofNat_of_zero_le (show 0 ≤ a by omega)
    have hm : m ≤ s.size := by omega
    clear ho
    have hb0 : decide (s.size < m) = false := by simp; omega
    go_enter Try.func77, Try.ntmps77
    go_wp2
    go_loop [7, 8, 9] (fun v7 v8 v9 => ∃ i n p : Nat, v7 = .int .u64 n ∧ v8 = .int .u64 p ∧ v9 = .int .i64 i ∧ Hid (GetAt s m i n p) ∧ i ≤ 9) (fun _ _ v9 => (9 - intOf v9).toNat)
    case atStart => exact ⟨0, 0, 1, rfl, rfl, rfl, GetAt.start s m hm, by omega⟩
    case round =>
      obtain ⟨i, n, p, rfl, rfl, rfl, HG, hi⟩ := hrel
      by_cases hc : s.size ≤ m + i
      · have HV : Hid (getV s m = (0, 0, 2)) := HG.out.cut hc
        go_wp2
        go_ret3
        rw [HV.out]
        exact ⟨rfl, rfl⟩
      · have hl : m + i < s.size := by omega
        clear hc
        obtain ⟨b, hbv⟩ : ∃ b : Nat, (s[m + i]'hl).toNat = b := ⟨_, rfl⟩
        have hb256 : b < 256 := by rw [← hbv]; exact UInt8.toNat_lt _
        have hwb : IntKind.u64.wrap (b : Int) = b := by rw [IntKind.wrap_u64]; omega
        by_cases h1 : i = 9 ∧ 1 < b
        · obtain ⟨rfl, h1b⟩ := h1
          have HV : Hid (getV s m = (0, 0, 3)) := HG.out.form1 hl (by omega)
          go_wp2
          go_ret3
          rw [HV.out]
          exact ⟨rfl, rfl⟩
        · have h91 : i = 9 → b ≤ 1 := by omega
          have H91 := Lib.hid h91
          have HS : Hid (n + b % 128 * p < 18446744073709551616) := HG.out.sum_lt b h91
          have HP : Hid (p ≤ 9223372036854775808) := HG.out.p_le
          clear h1 h91
          by_cases h2 : 128 ≤ b
          · have h9 : i ≠ 9 := fun e => by have := H91.out e; omega
            have HG2 : Hid (GetAt s m (i + 1) (n + b % 128 * p) (p * 128)) := by
              have := HG.out.more hl (by omega) h9
              rwa [hbv] at this
            have hb9 : ((i : Int) == 9) = false := by simp; omega
            have hi8 : i ≤ 8 := by omega
            have HP2 : Hid (p * 128 ≤ 9223372036854775808) := HG2.out.p_le
            clear h9
            go_wp2
            go_round
            case rel =>
              refine ⟨i + 1, n + b % 128 * p, p * 128, val_int ?_, val_int ?_, by go_num, HG2, by omega⟩
              · have := HS.out
                rw [IntKind.wrap_u64, IntKind.wrap_u64, show ((b : Int) % 128 * (p : Int)) = ((b % 128 * p : Nat) : Int) by simp]
                generalize b % 128 * p = q at *
                omega
              · have := HP2.out
                rw [IntKind.wrap_u64]
                omega
            case measure => simp [intOf]; omega
          · by_cases h0 : b = 0 ∧ 0 < i
            · obtain ⟨h0b, h0i⟩ := h0
              have HV : Hid (getV s m = (0, 0, 3)) := HG.out.form0 hl (by omega) h0i
              subst h0b
              obtain rfl | h9 : i = 9 ∨ i ≤ 8 := by omega
              all_goals
                go_wp2
                go_ret3
                rw [HV.out]
                exact ⟨rfl, rfl⟩
            · have HV : Hid (getV s m = (n + b % 128 * p, (m : Int) + (i + 1 : Nat), 0)) := by
                have := HG.out.done hl (by omega) (fun e => by have := H91.out e; omega) (by omega)
                rwa [hbv] at this
              have hq : ((b : Int) % 128 * (p : Int)) = ((b % 128 * p : Nat) : Int) := by simp
              have HQ := Lib.hid hq
              clear hq
              have hfin : IntKind.u64.wrap ((n : Int) + IntKind.u64.wrap ((b : Int) % 128 * (p : Int))) = ((n + b % 128 * p : Nat) : Int) := by
                have := HS.out
                rw [IntKind.wrap_u64, IntKind.wrap_u64, HQ.out]
                generalize b % 128 * p = q at *
                omega
              have HF := Lib.hid hfin
              clear hfin
              have hi0 : 1 ≤ b ∨ i = 0 := by omega
              have HI0 := Lib.hid hi0
              clear h0 hi0
              obtain ⟨h9, hz⟩ | ⟨h9, hz, hz2⟩ | ⟨h9, hz⟩ : (9 ≤ i ∧ 1 ≤ b) ∨ (i ≤ 8 ∧ b ≤ 0 ∧ i ≤ 0) ∨ (i ≤ 8 ∧ 1 ≤ b) := by have := HI0.out; omega
              have hb1 : b ≤ 1 := H91.out (by omega)
              all_goals
                go_wp2
                go_ret3
                rw [HV.out]
              · refine ⟨ret3 (val_int HF.out) (val_int ?_) rfl, rfl⟩
                show (m : Int) + 9 + 1 = (m : Int) + (i + 1 : Nat)
                omega
              · refine ⟨ret3 (val_int (a := IntKind.u64.wrap ((n : Int) + IntKind.u64.wrap 0)) ?_) (val_int (a := (m : Int) + i + 1) ?_) rfl, rfl⟩
                · have := HF.out
                  obtain rfl : b = 0 := by omega
                  simpa using this
                · show _ = (m : Int) + (i + 1 : Nat)
                  omega
              · refine ⟨ret3 (val_int HF.out) (val_int (a := (m : Int) + i + 1) ?_) rfl, rfl⟩
                show _ = (m : Int) + (i + 1 : Nat)
                omega
end Go.Proofs.Ytcopiimflloooaa
