/-
The walk of the statement IdentCases: it returns true whatever the input.
-/
import Derived.Test.YtobhlcogopcbdaaLaw03a
import Derived.Test.YtobhlcogopcbdaaSpecD
import Derived.Test.YtobhlcogopcbdaaRowKit
namespace Go.Proofs.Ytobhlcogopcbdaa
open Go.RowKit Sp

theorem map_set_same (l : List UInt8) (m : Nat) (h : m < l.length) (b : UInt8) (hb : lower b = lower l[m]) : (l.set m b).map lower = l.map lower := by
  rw [List.map_set, hb, ← List.getElem_map (h := by simpa using h) lower, List.set_getElem_self]

theorem u8_wrap (z : Int) : IntKind.u8.wrap z = z % 256 := by
  simp [IntKind.wrap, IntKind.bits, IntKind.signed]

set_option maxHeartbeats 2000000 in
set_option maxRecDepth 100000 in
theorem cases_walk (s : ByteArray) (n c : Nat) (A : Option Addr) (l : List Int) (w : World) (hp : Row (enK .i64) 1 w (.slice A n c) l) :
    Calls Try.prog 9 #[.string s, .slice A n c] w fun e w' => e = .returned (.bool true) ∧ Below w.heap.size w w' := by
  by_cases hs : (s.size : Int) > 40
  · go_enter Try.func9, Try.ntmps9
    go_wp2_with fail
    refine (live03 _).mono ?_
    rintro e w1 ⟨rfl, b1⟩
    go_wp2
    go_ret
    exact ⟨rfl, b1⟩
  by_cases hn : (n : Int) > 40
  · go_enter Try.func9, Try.ntmps9
    go_wp2_with fail
    refine (live03 _).mono ?_
    rintro e w1 ⟨rfl, b1⟩
    go_wp2
    go_ret
    exact ⟨rfl, b1⟩
  have EA := Lib.hid hp.len_eq
  have hl : s.size ≤ 140737488351232 := by omega
  have kc := fun W : World => Lib.run_convert_string_bytes (P := Try.prog) W 9 39 5 s Try.underlying9 Try.underlying39 Try.underlying5
  have hg1 := grownCap_ge w s.size 0 5
  have hg2 := grownCap_le_maxLen w s.size 0 5 (by simp only [maxLen]; omega)
  go_enter Try.func9, Try.ntmps9
  go_wp2
  obtain ⟨cp, hcp⟩ : ∃ cp, cp = grownCap w s.size 0 5 := ⟨_, rfl⟩
  rw [← hcp] at hg1 hg2 ⊢
  clear hcp kc
  go_loopw [6] (fun v6 wr => ∃ (i : Nat) (q : List UInt8), v6 = .int .i64 i ∧ i ≤ n ∧ BytesAt 5 wr w.heap.size q ∧ Hid (q.length = s.size) ∧ Hid (q.map lower = s.data.toList.map lower) ∧ Below w.heap.size w wr) (fun v6 _ => (n - intOf v6).toNat)
  case atStart =>
    refine ⟨0, s.data.toList, rfl, Nat.zero_le _, ?_, (size_eq_length s).symm, rfl, below_bytes (Below.refl _ _) (Nat.le_refl _) _ _⟩
    exact (TextRow.new 5 w s (by simp only [maxLen]; omega)).bytes
  case round =>
    obtain ⟨i, q, rfl, hi, hb, HQ, HM, hB⟩ := hrel
    have hlt1 := hb.lt
    have hp1 := hp.below hB
    by_cases hlt : i < n
    · have hil : i < l.length := by have := EA.out; omega
      obtain ⟨ad, rfl, hcell⟩ := hp1.get1 (f := Value.int .i64) i hil
      obtain ⟨k, hk⟩ : ∃ k, l[i] = k := ⟨_, rfl⟩
      rw [hk] at hcell
      clear hk
      by_cases hk0 : k < 0
      · go_wp2
        go_roundw
        case rel => exact ⟨i + 1, q, by go_num, by omega, hb, HQ, HM, hB⟩
        case measure => simp [intOf]; omega
      obtain ⟨m, rfl⟩ : ∃ m : Nat, k = m := ⟨k.toNat, by omega⟩
      by_cases hm : (m : Int) ≥ s.size
      · go_wp2
        go_roundw
        case rel => exact ⟨i + 1, q, by go_num, by omega, hb, HQ, HM, hB⟩
        case measure => simp [intOf]; omega
      have hm2 : m < s.size := by omega
      have hmq : m < q.length := by rw [HQ.out]; exact hm2
      obtain ⟨c, hcv⟩ : ∃ c : Nat, (q[m]'hmq).toNat = c := ⟨_, rfl⟩
      have hc256 : c < 256 := by rw [← hcv]; exact UInt8.toNat_lt _
      have hcl : wr.cell? ⟨w.heap.size, m, none⟩ = some (.int .u8 c) := by rw [hb.cell m hmq, hcv]
      have hfree : wr.frozen? ⟨w.heap.size, m, none⟩ = false := hb.free m hmq
      have hlw := lower_nat (q[m]'hmq)
      rw [hcv] at hlw
      have HL := Lib.hid hlw
      clear hlw
      have HC := Lib.hid hcv
      clear hcv
      obtain ⟨h1, h2⟩ | ⟨h1, h2⟩ | ⟨h1, h2⟩ : (97 ≤ c ∧ c ≤ 122) ∨ (65 ≤ c ∧ c ≤ 90) ∨ (¬ (97 ≤ c ∧ c ≤ 122) ∧ ¬ (65 ≤ c ∧ c ≤ 90)) := by omega
      · obtain ⟨b, hb2⟩ : ∃ b : UInt8, b = UInt8.ofNat (c - 32) := ⟨_, rfl⟩
        have hbn : b.toNat = c - 32 := by rw [hb2]; simp; omega
        have HB : Hid (lower b = lower (q[m]'hmq)) := by
          have e1 := lower_nat b
          have e2 := HL.out
          rw [if_pos (by omega)] at e1
          rw [if_neg (by omega)] at e2
          exact UInt8.toNat_inj.1 (by omega)
        have hw32 : IntKind.u8.wrap ((c : Int) - 32) = ((b.toNat : Nat) : Int) := by
          rw [hbn]
          rw [u8_wrap]
          omega
        clear hb2
        have HBN := Lib.hid hbn
        clear hbn
        go_wp2
        refine ⟨⟨i + 1, q.set m b, by go_num, by omega, hb.set m b, by show _ = _; rw [List.length_set]; exact HQ.out, by show _ = _; rw [map_set_same q m hmq b HB.out]; exact HM.out, hB.setCell (p := ⟨w.heap.size, m, none⟩) (Nat.le_refl _) _⟩, by simp [intOf]; omega⟩
      · obtain ⟨b, hb2⟩ : ∃ b : UInt8, b = UInt8.ofNat (c + 32) := ⟨_, rfl⟩
        have hbn : b.toNat = c + 32 := by rw [hb2]; simp; omega
        have HB : Hid (lower b = lower (q[m]'hmq)) := by
          have e1 := lower_nat b
          have e2 := HL.out
          rw [if_neg (by omega)] at e1
          rw [if_pos (by omega)] at e2
          exact UInt8.toNat_inj.1 (by omega)
        have hw32 : IntKind.u8.wrap ((c : Int) + 32) = ((b.toNat : Nat) : Int) := by
          rw [hbn]
          rw [u8_wrap]
          omega
        clear hb2
        have HBN := Lib.hid hbn
        clear hbn
        go_wp2
        refine ⟨⟨i + 1, q.set m b, by go_num, by omega, hb.set m b, by show _ = _; rw [List.length_set]; exact HQ.out, by show _ = _; rw [map_set_same q m hmq b HB.out]; exact HM.out, hB.setCell (p := ⟨w.heap.size, m, none⟩) (Nat.le_refl _) _⟩, by simp [intOf]; omega⟩
      · by_cases h3 : 97 ≤ c
        · have h4 : ¬ c ≤ 122 := by omega
          have h5 : ¬ c ≤ 90 := by omega
          have h6 : 65 ≤ c := by omega
          go_wp2
          go_roundw
          case rel => exact ⟨i + 1, q, by go_num, by omega, hb, HQ, HM, hB⟩
          case measure => simp [intOf]; omega
        · by_cases h4 : 65 ≤ c
          · have h5 : ¬ c ≤ 90 := by omega
            go_wp2
            go_roundw
            case rel => exact ⟨i + 1, q, by go_num, by omega, hb, HQ, HM, hB⟩
            case measure => simp [intOf]; omega
          · go_wp2
            go_roundw
            case rel => exact ⟨i + 1, q, by go_num, by omega, hb, HQ, HM, hB⟩
            case measure => simp [intOf]; omega
    · obtain ⟨t, b, h1⟩ : ∃ t b, foldV s = (t, b) := ⟨_, _, rfl⟩
      have h2 : foldV (strOf q) = (t, b) := by
        have hf : foldS (strOf q) = foldS s := by unfold foldS; rw [strOf_list, HM.out]
        rw [← h1]
        unfold foldV
        rw [hf]
      have h3 : b = true → isName t = true := by
        intro hb'
        subst hb'
        unfold foldV at h1
        split at h1
        · rename_i hx
          simp only [Prod.mk.injEq] at h1
          rw [← h1.1]; exact hx
        · simp at h1
      have hts : t.size ≤ 140737488351232 := by
        have e := foldS_size s
        unfold foldV at h1
        split at h1
        · simp only [Prod.mk.injEq] at h1
          rw [← h1.1, e]; exact hl
        · simp only [Prod.mk.injEq] at h1
          rw [← h1.1]; decide
      have H1 := Lib.hid h1
      have H2 := Lib.hid h2
      have hrow := hb.row (c := cp) (by rw [HQ.out]; omega) hg2
      rw [HQ.out] at hrow
      have hq2 : (strOf q).size ≤ 140737488351232 := by rw [strOf_size, HQ.out]; exact hl
      clear h1 h2 hb
      cases b with
      | true =>
        have H3 : Hid (isName t = true) := h3 rfl
        clear h3
        go_wp2_with fail
        refine (identFold_is _ s _ _ H1 hl).mono ?_
        rintro e w1 ⟨rfl, b1⟩
        have hcv := (hrow.below b1).string (P := Try.prog) Try.underlying39 Try.underlying5 Try.underlying9
        replace b1 := below_call hB b1
        clear hB
        go_wp2_with fail
        refine (identFold_is _ (strOf q) _ _ H2 hq2).mono ?_
        rintro e w2 ⟨rfl, b2⟩
        replace b2 := below_call b1 b2
        clear b1
        go_wp2_with fail
        refine (Is_is _ t _ H3 hts).mono ?_
        rintro e w3 ⟨rfl, b3⟩
        replace b3 := below_call b2 b3
        clear b2
        go_wp2_with fail
        refine (live03 _).mono ?_
        rintro e w4 ⟨rfl, b4⟩
        replace b4 := below_call b3 b4
        clear b3
        go_wp2
        go_ret
        exact ⟨rfl, b4⟩
      | false =>
        clear h3
        go_wp2_with fail
        refine (identFold_is _ s _ _ H1 hl).mono ?_
        rintro e w1 ⟨rfl, b1⟩
        have hcv := (hrow.below b1).string (P := Try.prog) Try.underlying39 Try.underlying5 Try.underlying9
        replace b1 := below_call hB b1
        clear hB
        go_wp2_with fail
        refine (identFold_is _ (strOf q) _ _ H2 hq2).mono ?_
        rintro e w2 ⟨rfl, b2⟩
        replace b2 := below_call b1 b2
        clear b1
        go_wp2_with fail
        refine (live03 _).mono ?_
        rintro e w4 ⟨rfl, b4⟩
        replace b4 := below_call b2 b4
        clear b2
        go_wp2
        go_ret
        exact ⟨rfl, b4⟩
end Go.Proofs.Ytobhlcogopcbdaa
