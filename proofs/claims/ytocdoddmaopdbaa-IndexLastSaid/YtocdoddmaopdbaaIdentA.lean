/-
Contracts: what 'letter' and 'Is' of the layer of names answer, at every text.
-/
import Derived.Test.YtocdoddmaopdbaaProg
import Derived.Test.YtocdoddmaopdbaaSpecA
import Derived.Test.YtocdoddmaopdbaaLib
import Derived.Lib.OthersKept
namespace Go.Proofs.Ytocdoddmaopdbaa
open Go.RowKit Sp

theorem letter_calls (r : Int) (w : World) :
    Calls Try.prog 49 #[.int .i32 r] w fun e w' => e = .returned (.bool (decide (97 ≤ r) && decide (r ≤ 122))) ∧ w = w' := by
  by_cases h1 : 97 ≤ r <;> by_cases h2 : r ≤ 122
  all_goals
    go_enter Try.func49, Try.ntmps49
    go_wp2
    go_ret
    exact ⟨by simp [h1, h2], rfl⟩

theorem width_pos (s : ByteArray) (pos : Nat) (h : pos < s.size) : 1 ≤ (Utf8.decode s pos).2 := by
  by_cases ha : (s[pos]'h).toNat < 128
  · rw [decode_ascii s pos h ha]
    exact Nat.le_refl _
  · exact (decode_high s pos h (by omega)).2

theorem letter_yes (r : Int) (w : World) (h1 : 97 ≤ r) (h2 : r ≤ 122) :
    Calls Try.prog 49 #[.int .i32 r] w fun e w' => e = .returned (.bool true) ∧ w = w' :=
  (letter_calls r w).mono fun _ _ ⟨he, hw⟩ => ⟨by rw [he]; simp [h1, h2], hw⟩
theorem letter_no (r : Int) (w : World) (h : r < 97 ∨ 122 < r) :
    Calls Try.prog 49 #[.int .i32 r] w fun e w' => e = .returned (.bool false) ∧ w = w' :=
  (letter_calls r w).mono fun _ _ ⟨he, hw⟩ => ⟨by rw [he]; congr 2; simp; omega, hw⟩

set_option maxHeartbeats 1000000 in
theorem Is_calls (s : ByteArray) (w : World) (hs : s.size ≤ 140737488351232) :
    Calls Try.prog 34 #[.string s] w fun e w' => e = .returned (.bool (isName s)) ∧ Below w.heap.size w w' := by
  go_enter Try.func34, Try.ntmps34
  go_wp2
  go_loopw [] (fun wr => ∃ pos, wr = w.iter s pos ∧ okTo s pos ∧ pos ≤ s.size) (fun wr => s.size - wr.iterPos w.heap.size)
  case atStart => exact ⟨0, rfl, okTo_zero s, Nat.zero_le _⟩
  case round =>
    obtain ⟨pos, rfl, ho, hle⟩ := hrel
    have HO := Lib.hid ho
    clear ho
    by_cases hp : pos < s.size
    · obtain ⟨r, d, hrd⟩ : ∃ r d, Utf8.decode s pos = (r, d) := ⟨_, _, rfl⟩
      have hwd := width_pos s pos hp
      rw [hrd] at hwd
      simp only at hwd
      have hnx : ∀ ty, (Instr.next (.pointer (some ⟨w.heap.size, 0, none⟩)) true ty).run Try.prog (w.iter s pos) = .ok (.tuple #[.bool true, .int .i64 pos, .int .i32 r]) (w.iter s (pos + d)) := fun ty => by rw [run_next_any w s pos ty hp, hrd]
      have hA : Hid ((s[pos].toNat < 128 → r = s[pos].toNat ∧ d = 1) ∧ (128 ≤ s[pos].toNat → 128 ≤ r)) := by
        refine Lib.hid ⟨fun ha => ?_, fun ha => ?_⟩
        · rw [decode_ascii s pos hp ha] at hrd
          simp only [Prod.mk.injEq] at hrd
          omega
        · have := (decode_high s pos hp ha).1
          rw [hrd] at this
          exact this
      have HR := Lib.hid hrd
      clear hrd
      by_cases hl : 97 ≤ r ∧ r ≤ 122
      · obtain ⟨hl1, hl2⟩ := hl
        go_wp2_with (go_at_call 49; refine (letter_yes _ _ (by omega) (by omega)).mono ?_; rintro e w' ⟨rfl, rfl⟩)
        go_roundw
        case rel =>
          refine ⟨pos + d, rfl, ?_, ?_⟩
          · obtain ⟨a1, a2⟩ := hA.out
            have hlt : s[pos].toNat < 128 := by rcases Nat.lt_or_ge s[pos].toNat 128 with h | h; exact h; have := a2 h; omega
            obtain ⟨a3, a4⟩ := a1 hlt
            rw [a4, okTo_succ s pos hp]
            have hq : isLetter s[pos] = true := (isLetter_nat _).2 (by omega)
            exact ⟨HO.out, letter_is _ hq, fun _ => hq⟩
          · obtain ⟨a1, a2⟩ := hA.out
            have hlt : s[pos].toNat < 128 := by rcases Nat.lt_or_ge s[pos].toNat 128 with h | h; exact h; have := a2 h; omega
            omega
        case measure => simp; omega
      · have hl' : (r : Int) < 97 ∨ 122 < (r : Int) := by omega
        have HL := Lib.hid hl
        clear hl
        have HL' := Lib.hid hl'
        clear hl'
        by_cases h0 : pos = 0
        · subst h0
          go_wp2_with (go_at_call 49; refine (letter_no _ _ HL'.out).mono ?_; rintro e w' ⟨rfl, rfl⟩)
          go_ret
          rw [isName_no s 0 hp (fun h => ?_)]
          · exact ⟨rfl, (Below.refl _ _).alloc (Nat.le_refl _) _⟩
          · have := (isLetter_nat _).1 (h.2 rfl)
            have := hA.out.1
            have := HL.out
            omega
        · have hb0 : ((pos : Int) == 0) = false := by simp; omega
          by_cases hd : 48 ≤ r ∧ r ≤ 57
          · obtain ⟨hd1, hd2⟩ := hd
            go_wp2_with (go_at_call 49; refine (letter_no _ _ HL'.out).mono ?_; rintro e w' ⟨rfl, rfl⟩)
            go_roundw
            case rel =>
              obtain ⟨a1, a2⟩ := hA.out
              have hlt : s[pos].toNat < 128 := by rcases Nat.lt_or_ge s[pos].toNat 128 with h | h; exact h; have := a2 h; omega
              obtain ⟨a3, a4⟩ := a1 hlt
              refine ⟨pos + d, rfl, ?_, by omega⟩
              rw [a4, okTo_succ s pos hp]
              exact ⟨HO.out, (isNameByte_nat _).2 (by omega), fun h => absurd h h0⟩
            case measure => simp; omega
          · by_cases h45 : r = 45
            · subst h45
              go_wp2_with (go_at_call 49; refine (letter_no _ _ HL'.out).mono ?_; rintro e w' ⟨rfl, rfl⟩)
              go_roundw
              case rel =>
                obtain ⟨a1, a2⟩ := hA.out
                have hlt : s[pos].toNat < 128 := by rcases Nat.lt_or_ge s[pos].toNat 128 with h | h; exact h; have := a2 h; omega
                obtain ⟨a3, a4⟩ := a1 hlt
                refine ⟨pos + d, rfl, ?_, by omega⟩
                rw [a4, okTo_succ s pos hp]
                exact ⟨HO.out, (isNameByte_nat _).2 (by omega), fun h => absurd h h0⟩
              case measure => simp; omega
            · have hb45 : ((r : Int) != 45) = true := by simp; omega
              have hno : isName s = false := isName_no s pos hp (fun h => by
                have h1 := (isNameByte_nat _).1 h.1
                have h2 := hA.out.1
                have h3 := HL.out
                omega)
              have HN := Lib.hid hno
              clear hno
              by_cases h48 : r < 48
              · go_wp2_with (go_at_call 49; refine (letter_no _ _ HL'.out).mono ?_; rintro e w' ⟨rfl, rfl⟩)
                go_ret
                rw [HN.out]
                exact ⟨rfl, (Below.refl _ _).alloc (Nat.le_refl _) _⟩
              · have h57 : 57 < r := by omega
                go_wp2_with (go_at_call 49; refine (letter_no _ _ HL'.out).mono ?_; rintro e w' ⟨rfl, rfl⟩)
                go_ret
                rw [HN.out]
                exact ⟨rfl, (Below.refl _ _).alloc (Nat.le_refl _) _⟩
    · obtain rfl : pos = s.size := by omega
      have hnx : ∀ ty, (Instr.next (.pointer (some ⟨w.heap.size, 0, none⟩)) true ty).run Try.prog (w.iter s s.size) = _ := fun ty => run_next_end w s s.size ty hp
      have hbel : Below w.heap.size w (w.iter s s.size) := (Below.refl _ _).alloc (Nat.le_refl _) _
      clear hle
      go_wp2
      · go_ret
        refine ⟨?_, hbel⟩
        have h0 : s.size = 0 := by
          have hq : s.toList = [] := by assumption
          rw [ByteArray.toList_eq] at hq
          have : s.data.toList.length = 0 := by rw [hq]; rfl
          rwa [Array.length_toList] at this
        have hno : isName s = false := by
          rw [← Bool.not_eq_true, isName_iff]
          omega
        rw [hno]
        rfl
      · go_ret
        refine ⟨ret_bool (a := (!s.toList.isEmpty && decide ((s.size : Int) ≤ 16))) ?_, hbel⟩
        have hq : ¬ s.toList = [] := by assumption
        rw [Bool.eq_iff_iff, isName_iff]
        have h0 : 0 < s.size := by
          rcases Nat.eq_zero_or_pos s.size with h | h
          · refine absurd ?_ hq
            rw [ByteArray.toList_eq]
            exact List.eq_nil_of_length_eq_zero (by rw [Array.length_toList]; exact h)
          · exact h
        have ho := HO.out
        simp [hq, h0, ho]
        try omega

/-! ### the reference's -/
end Go.Proofs.Ytocdoddmaopdbaa
