/-
Contracts: how a number is read, of the program ('Get' goes to a label).
-/
import Derived.Test.YtcopiimflloooaaVarA
import Derived.WalkMore
import Derived.ScopeJumps
import Derived.Laws.Bits64b
namespace Go.Proofs.Ytcopiimflloooaa
open Go.RowKit Sp

theorem andNot128 (m : Nat) (h : m < 256) : bits .andNot .u8 (m : Int) 128 = ((m % 128 : Nat) : Int) := by
  have key : ∀ m : Fin 256, bits .andNot .u8 ((m : Nat) : Int) 128 = (((m : Nat) % 128 : Nat) : Int) := by decide +kernel
  exact key ⟨m, h⟩
theorem pow_word (i : Nat) : ((2 : Int) ^ (7 * i)) = ((128 ^ i : Nat) : Int) := by
  rw [show (128 : Nat) = 2 ^ 7 by decide, ← Nat.pow_mul]
  simp
theorem sum_lt9 (n b i : Nat) (hn : n < 128 ^ i) (hi : i ≤ 9) (h9 : i = 9 → b ≤ 1) : n + b % 128 * 128 ^ i < 18446744073709551616 := by
  rcases Nat.lt_or_ge i 9 with h8 | h9'
  · have : (128 : Nat) ^ i ≤ 128 ^ 8 := Nat.pow_le_pow_right (by omega) (by omega)
    have h9 : (128 : Nat) ^ 8 = 72057594037927936 := by decide
    have : b % 128 * 128 ^ i ≤ 127 * 128 ^ i := Nat.mul_le_mul_right _ (by omega)
    omega
  · obtain rfl : i = 9 := by omega
    have h9'' : (128 : Nat) ^ 9 = 9223372036854775808 := by decide
    have := h9 rfl
    have : b % 128 * 128 ^ 9 ≤ 1 * 128 ^ 9 := Nat.mul_le_mul_right _ (by omega)
    omega
/-- What '|=' makes of a number and the next seven bits. -/
theorem or_word (n b i : Nat) (hn : n < 128 ^ i) (hi : i ≤ 9) (hb : b < 256) (h9 : i = 9 → b ≤ 1) (x q : Int) (hx : x = (b : Int)) (hq : q = ((128 ^ i : Nat) : Int)) :
    bits .or .u64 (n : Int) (IntKind.u64.wrap (IntKind.u64.wrap (bits .andNot .u8 x 128) * q)) = ((n + b % 128 * 128 ^ i : Nat) : Int) := by
  subst hx hq
  have h0 := sum_lt9 n b i hn hi h9
  rw [andNot128 b hb, IntKind.wrap_u64, IntKind.wrap_u64]
  have e1 : ((b % 128 : Nat) : Int) % 18446744073709551616 = ((b % 128 : Nat) : Int) := by omega
  rw [e1, ← Int.natCast_mul]
  have e2 : ((b % 128 * 128 ^ i : Nat) : Int) % 18446744073709551616 = ((b % 128 * 128 ^ i : Nat) : Int) := by
    generalize b % 128 * 128 ^ i = q at *
    omega
  rw [e2, bits_or_u64_nat _ _ (by omega) (by omega)]
  congr 1
  have hp : (128 : Nat) ^ i = 2 ^ (7 * i) := by rw [show (128 : Nat) = 2 ^ 7 by decide, ← Nat.pow_mul]
  rw [hp] at hn ⊢
  rw [Nat.or_comm, Nat.mul_comm (b % 128), ← Nat.two_pow_add_eq_or_of_lt hn, Nat.add_comm]

/-- What holds at every jump. -/
def GetRel (s : ByteArray) (m : Nat) (w : World) (a' : Act) (w' : World) : Prop :=
  w = w' ∧ ∃ (i n : Nat) (u9 u10 u11 u12 u13 u14 u15 u16 u17 u18 u19 u20 u21 u22 u23 u24 u25 u26 u27 u28 u29 u30 u31 u32 u33 u34 u35 u36 u37 u38 u39 u40 u41 u42 u43 u44 u45 u46 : Value), a' = { tmps := #[.string s, .int .i64 m, undef, undef, .int .u64 0, .int .i64 0, .int .i64 0, .int .u64 n, .int .i64 i, u9, u10, u11, u12, u13, u14, u15, u16, u17, u18, u19, u20, u21, u22, u23, u24, u25, u26, u27, u28, u29, u30, u31, u32, u33, u34, u35, u36, u37, u38, u39, u40, u41, u42, u43, u44, u45, u46, undef, undef, undef, undef, undef, undef, undef, undef, undef, undef], defers := [] } ∧ Hid (GetAt s m i n (128 ^ i)) ∧ i ≤ 9

set_option maxHeartbeats 2000000 in
set_option maxRecDepth 100000 in
theorem varGet_calls (s : ByteArray) (a : Int) (w : World) (hs : s.size ≤ 140737488351232) :
    Calls Try.prog 74 #[.string s, .int .i64 a] w fun e w' => e = .returned (.tuple #[.int .u64 (getV s a).1, .int .i64 (getV s a).2.1, .int .i64 (getV s a).2.2]) ∧ w = w' := by
  by_cases ho : a < 0 ∨ (s.size : Int) < a
  · have HV : Hid (getV s a = (0, 0, 1)) := getV_out s a ho
    rcases ho with h | h
    · go_enter Try.func74, Try.ntmps74
      go_wp2
      go_step3
      go_wp2
      rw [Exit.noGoto_ret]
      go_ret3
      rw [HV.out]
      exact ⟨rfl, rfl⟩
    · have h0 : 0 ≤ a := by omega
      go_enter Try.func74, Try.ntmps74
      go_wp2
      go_step3
      go_wp2
      rw [Exit.noGoto_ret]
      go_ret3
      rw [HV.out]
      exact ⟨rfl, rfl⟩
  · obtain ⟨m, rfl⟩ := Int.eq_ofNat_of_zero_le (show 0 ≤ a by omega)
    have hm : m ≤ s.size := by omega
    clear ho
    have hb0 : decide (s.size < m) = false := by simp; omega
    go_enter Try.func74, Try.ntmps74
    go_wp2
    refine wp_scope_jumps 0 (GetRel s m w) (fun a' _ => (9 - intOf (a'.tmps.getD 8 undef)).toNat) rfl ?_ ?_
    · have HG : Hid (GetAt s m 0 0 (128 ^ 0)) := GetAt.start s m hm
      by_cases hc : s.size ≤ m
      · have HV : Hid (getV s m = (0, 0, 2)) := HG.out.cut hc
        have hc' : ((m : Int) == s.size) = true := by simp; omega
        go_wp2
        go_step3
        go_wp2
        simp only [Exit.jump]
        go_ret3
        rw [HV.out]
        exact ⟨rfl, rfl⟩
      · have hl : m < s.size := by omega
        have hc' : ((m : Int) == s.size) = false := by simp; omega
        clear hc
        obtain ⟨b, hbv⟩ : ∃ b : Nat, (s[m]'hl).toNat = b := ⟨_, rfl⟩
        have hb256 : b < 256 := by rw [← hbv]; exact UInt8.toNat_lt _
        have hf : bits .or .u64 0 (IntKind.u64.wrap (IntKind.u64.wrap (bits .andNot .u8 (b : Int) 128))) = ((0 + b % 128 * 128 ^ 0 : Nat) : Int) := by
          have := or_word 0 b 0 (by simp) (by omega) hb256 (by omega) b 1 rfl (by simp)
          rwa [Int.mul_one] at this
        have HF := Lib.hid hf
        clear hf
        by_cases h2 : 128 ≤ b
        · have HG2 : Hid (GetAt s m (0 + 1) (0 + b % 128 * 128 ^ 0) (128 ^ (0 + 1))) := by
            have := HG.out.more hl (by simp only [Nat.add_zero]; omega) (by omega)
            simp only [Nat.add_zero] at this
            rw [hbv] at this
            exact this
          go_wp2
          go_step3
          go_wp2
          go_step3
          rw [HF.out]
          exact ⟨rfl, rfl, 0 + 1, 0 + b % 128 * 128 ^ 0, _, _, _, _, _, _, _, _, _, _, _, _, _, _, _, _, _, _, _, _, _, _, _, _, _, _, _, _, _, _, _, _, _, _, _, _, _, _, rfl, HG2, by omega⟩
        · have HV : Hid (getV s m = (0 + b % 128 * 128 ^ 0, (m : Int) + (0 + 1 : Nat), 0)) := by
            have := HG.out.done hl (by simp only [Nat.add_zero]; omega) (by omega) (by omega)
            simp only [Nat.add_zero] at this
            rw [hbv] at this
            exact this
          obtain hz | hz : b ≤ 0 ∨ 1 ≤ b := by omega
          · have hf0 : bits .or .u64 0 (IntKind.u64.wrap (IntKind.u64.wrap (bits .andNot .u8 0 128))) = ((0 + b % 128 * 128 ^ 0 : Nat) : Int) := by
              have h1 := HF.out
              obtain rfl : b = 0 := by omega
              exact h1
            have HF0 := Lib.hid hf0
            clear hf0
            go_wp2
            go_step3
            go_wp2
            simp only [Exit.jump]
            go_ret3
            rw [HV.out]
            refine ⟨ret3 (val_int HF0.out) (val_int (a := (m : Int) + 1) ?_) rfl, rfl⟩
            show _ = (m : Int) + (0 + 1 : Nat)
            omega
          · go_wp2
            go_step3
            go_wp2
            simp only [Exit.jump]
            go_ret3
            rw [HV.out]
            refine ⟨ret3 (val_int HF.out) (val_int (a := (m : Int) + 1) ?_) rfl, rfl⟩
            show _ = (m : Int) + (0 + 1 : Nat)
            omega
    · rintro a' w' ⟨rfl, i, n, u9, u10, u11, u12, u13, u14, u15, u16, u17, u18, u19, u20, u21, u22, u23, u24, u25, u26, u27, u28, u29, u30, u31, u32, u33, u34, u35, u36, u37, u38, u39, u40, u41, u42, u43, u44, u45, u46, rfl, HG, hi⟩
      by_cases hc : s.size ≤ m + i
      · have HV : Hid (getV s m = (0, 0, 2)) := HG.out.cut hc
        have hc' : ((m : Int) + i == s.size) = true := by have := HG.out.2.1; simp; omega
        go_wp2
        simp only [Exit.jump]
        go_ret3
        rw [HV.out]
        exact ⟨rfl, rfl⟩
      · have hl : m + i < s.size := by omega
        have hc' : ((m : Int) + i == s.size) = false := by simp; omega
        clear hc
        obtain ⟨b, hbv⟩ : ∃ b : Nat, (s[m + i]'hl).toNat = b := ⟨_, rfl⟩
        have hb256 : b < 256 := by rw [← hbv]; exact UInt8.toNat_lt _
        by_cases h1 : i = 9 ∧ 1 < b
        · obtain ⟨rfl, h1b⟩ := h1
          have HV : Hid (getV s m = (0, 0, 3)) := HG.out.form1 hl (by omega)
          go_wp2
          simp only [Exit.jump]
          go_ret3
          rw [HV.out]
          exact ⟨rfl, rfl⟩
        · have h91 : i = 9 → b ≤ 1 := by omega
          have H91 := Lib.hid h91
          have hf : bits .or .u64 (n : Int) (IntKind.u64.wrap (IntKind.u64.wrap (bits .andNot .u8 (b : Int) 128) * 2 ^ (7 * i))) = ((n + b % 128 * 128 ^ i : Nat) : Int) :=
            or_word n b i HG.out.2.2.1 (by omega) hb256 h91 b _ rfl (pow_word i)
          have HF := Lib.hid hf
          clear h1 h91 hf
          by_cases h2 : 128 ≤ b
          · have h8 : i ≤ 8 := by
              rcases Nat.lt_or_ge i 9 with h | h
              · omega
              · have := H91.out (by omega)
                omega
            have HG2 : Hid (GetAt s m (i + 1) (n + b % 128 * 128 ^ i) (128 ^ (i + 1))) := by
              have := HG.out.more hl (by omega) (by omega)
              rw [hbv] at this
              exact this
            go_wp2
            go_step3
            rw [HF.out]
            refine ⟨rfl, ⟨rfl, i + 1, n + b % 128 * 128 ^ i, _, _, _, _, _, _, _, _, _, _, _, _, _, _, _, _, _, _, _, _, _, _, _, _, _, _, _, _, _, _, _, _, _, _, _, _, _, _, rfl, HG2, by omega⟩, ?_⟩
            simp [intOf]
            omega
          · by_cases h0 : b = 0 ∧ 0 < i
            · obtain ⟨h0b, h0i⟩ := h0
              have HV : Hid (getV s m = (0, 0, 3)) := HG.out.form0 hl (by omega) h0i
              have hz : b ≤ 0 := by omega
              clear h0b
              obtain h9 | h9 : 9 ≤ i ∨ i ≤ 8 := by omega
              all_goals
                go_wp2
                simp only [Exit.jump]
                go_ret3
                rw [HV.out]
                exact ⟨rfl, rfl⟩
            · have HV : Hid (getV s m = (n + b % 128 * 128 ^ i, (m : Int) + (i + 1 : Nat), 0)) := by
                have := HG.out.done hl (by omega) (fun e => by have := H91.out e; omega) (by omega)
                rwa [hbv] at this
              have hi0 : 1 ≤ b ∨ i = 0 := by omega
              have HI0 := Lib.hid hi0
              clear h0 hi0
              obtain ⟨h9, hz⟩ | ⟨h9, hz, hz2⟩ | ⟨h9, hz⟩ : (9 ≤ i ∧ 1 ≤ b) ∨ (i ≤ 8 ∧ b ≤ 0 ∧ i ≤ 0) ∨ (i ≤ 8 ∧ 1 ≤ b) := by have := HI0.out; omega
              have hb1 : b ≤ 1 := H91.out (by omega)
              have hf9 : bits .or .u64 (n : Int) (IntKind.u64.wrap (IntKind.u64.wrap (bits .andNot .u8 (b : Int) 128) * 9223372036854775808)) = ((n + b % 128 * 128 ^ i : Nat) : Int) := by
                have h1 := HF.out
                obtain rfl : i = 9 := by omega
                exact h1
              have HF9 := Lib.hid hf9
              clear hf9
              rotate_left
              have hf0 : bits .or .u64 (n : Int) (IntKind.u64.wrap (IntKind.u64.wrap (bits .andNot .u8 0 128) * 2 ^ (7 * i))) = ((n + b % 128 * 128 ^ i : Nat) : Int) := by
                have h1 := HF.out
                obtain rfl : b = 0 := by omega
                exact h1
              have HF0 := Lib.hid hf0
              clear hf0
              rotate_left
              rotate_left
              all_goals
                go_wp2
                simp only [Exit.jump]
                go_ret3
                rw [HV.out]
              · refine ⟨ret3 (val_int HF9.out) (val_int (a := (m : Int) + 10) ?_) rfl, rfl⟩
                show _ = (m : Int) + (i + 1 : Nat)
                omega
              · refine ⟨ret3 (val_int HF0.out) (val_int (a := (m : Int) + (i + 1)) ?_) rfl, rfl⟩
                show _ = (m : Int) + (i + 1 : Nat)
                omega
              · refine ⟨ret3 (val_int HF.out) (val_int (a := (m : Int) + (i + 1)) ?_) rfl, rfl⟩
                show _ = (m : Int) + (i + 1 : Nat)
                omega
end Go.Proofs.Ytcopiimflloooaa
