/-
Contracts: a name folded, of the program and of the reference.
-/
import Derived.Test.YtobhlcogopcbdaaIdentA
import Derived.Test.YtobhlcogopcbdaaBuilder
namespace Go.Proofs.Ytobhlcogopcbdaa
open Go.RowKit Sp

theorem foldS_size (s : ByteArray) : (foldS s).size = s.size := by
  unfold foldS
  rw [size_ofList, List.length_map, ← size_eq_length]
theorem lower_nat (c : UInt8) : ((lower c).toNat : Int) = if 65 ≤ c.toNat ∧ c.toNat ≤ 90 then (c.toNat : Int) + 32 else c.toNat := by
  unfold lower
  split
  · have : (c + 32).toNat = c.toNat + 32 := by
      rw [UInt8.toNat_add]
      have : (32 : UInt8).toNat = 32 := rfl
      omega
    rw [this]
    omega
  · rfl
theorem take_succ_map (s : ByteArray) (k : Nat) (h : k < s.size) : (s.data.toList.take (k + 1)).map lower = (s.data.toList.take k).map lower ++ [lower s[k]] := by
  have hl : k < s.data.toList.length := by rw [← size_eq_length]; exact h
  rw [List.take_succ_eq_append_getElem hl, List.map_append]
  rfl

set_option maxHeartbeats 1000000 in
set_option maxRecDepth 100000 in
theorem identFold_calls (s : ByteArray) (w : World) (hs : s.size ≤ 140737488351232) :
    Calls Try.prog 16 #[.string s] w fun e w' => e = .returned (.tuple #[.string (foldV s).1, .bool (foldV s).2]) ∧ Below w.heap.size w w' := by
  have kc := fun W : World => Lib.run_convert_string_bytes (P := Try.prog) W 9 39 5 s Try.underlying9 Try.underlying39 Try.underlying5
  go_enter Try.func16, Try.ntmps16
  go_wp2
  go_loopw [11] (fun v11 wr => ∃ k : Nat, v11 = .int .i64 k ∧ k ≤ s.size ∧ Bld w.heap.size w.heap.size ((s.data.toList.take k).map lower) wr ∧ TextRow 5 wr (w.heap.size + 1) s ∧ Below w.heap.size w wr) (fun v11 _ => (s.size - intOf v11).toNat)
  case atStart =>
    have h0 : Below w.heap.size w (w.alloc (.cells #[.pointer none, .slice none 0 0] 64)) := (Below.refl _ _).alloc (Nat.le_refl _) _
    refine ⟨0, rfl, Nat.zero_le _, ?_, ?_, ?_⟩
    · exact (Bld.fresh w).later fun k hk => Lib.bytesWorld_at_old _ _ _ k hk
    · have := TextRow.new 5 (w.alloc (.cells #[.pointer none, .slice none 0 0] 64)) s (by simp only [maxLen]; omega)
      simpa using this
    · exact below_bytes h0 (by simp) _ _
  case round =>
    obtain ⟨k, rfl, hk, hb, ht, hB⟩ := hrel
    have hlt1 := ht.lt
    by_cases hlt : k < s.size
    · obtain ⟨c, hcv⟩ : ∃ c : Nat, (s[k]'hlt).toNat = c := ⟨_, rfl⟩
      have hc256 : c < 256 := by rw [← hcv]; exact UInt8.toNat_lt _
      have hcell : wr.cell? ⟨w.heap.size + 1, k, none⟩ = some (.int .u8 c) := by rw [ht.cell k hlt, hcv]
      have hlen : ((s.data.toList.take k).map lower).length ≤ k := by rw [List.length_map]; exact List.length_take_le _ _
      have hlw := lower_nat s[k]
      rw [hcv] at hlw
      have HL := Lib.hid hlw
      clear hlw
      obtain ⟨h1, h2⟩ | h1 | ⟨h1, h2⟩ : (65 ≤ c ∧ c ≤ 90) ∨ c < 65 ∨ (65 ≤ c ∧ 90 < c) := by omega
      all_goals
        go_wp2_with (go_at_call 45; refine (bldByte w.heap.size w.heap.size _ (lower s[k]) _ (by rw [HL.out]; first | rw [if_pos (by omega)] | rw [if_neg (by omega)]) _ hb (by omega) (by omega)).mono ?_; rintro e w1 ⟨rfl, hb1, hB1, _, hK1⟩)
        go_roundw
        case rel =>
          refine ⟨k + 1, by go_num, by omega, ?_, ht.kept hK1 (by omega) (by omega), hB.trans hB1⟩
          rw [take_succ_map s k hlt]
          exact hb1
        case measure => simp [intOf]; omega
    · obtain rfl : k = s.size := by omega
      have hfull : (s.data.toList.take s.size).map lower = s.data.toList.map lower := by rw [List.take_of_length_le (by rw [size_eq_length]; exact Nat.le_refl _)]
      rw [hfull] at hb
      clear hfull
      have hsz := foldS_size s
      have hfs : strOf (s.data.toList.map lower) = foldS s := rfl
      cases hn : isName (foldS s) with
      | true =>
        have HV : Hid (foldV s = (foldS s, true)) := by show _ = _; simp [foldV, hn]
        have HN := Lib.hid hn
        have HS := Lib.hid hsz
        clear hn hsz
        go_wp2_with fail
        refine (bldString w.heap.size w.heap.size _ _ hb (by omega)).mono ?_
        rw [hfs]
        clear hfs
        rintro e w1 ⟨rfl, hb1, hB1, _⟩
        go_wp2_with fail
        refine (re_ (Is_calls (foldS s) _ (by rw [HS.out]; exact hs)) (ret_bool HN.out)).mono ?_
        rintro e w2 ⟨rfl, hB2⟩
        go_wp2
        go_ret2
        rw [HV.out]
        exact ⟨rfl, below_call (hB.trans hB1) hB2⟩
      | false =>
        have HV : Hid (foldV s = (⟨#[]⟩, false)) := by show _ = _; simp [foldV, hn]
        have HN := Lib.hid hn
        have HS := Lib.hid hsz
        clear hn hsz
        go_wp2_with fail
        refine (bldString w.heap.size w.heap.size _ _ hb (by omega)).mono ?_
        rw [hfs]
        clear hfs
        rintro e w1 ⟨rfl, hb1, hB1, _⟩
        go_wp2_with fail
        refine (re_ (Is_calls (foldS s) _ (by rw [HS.out]; exact hs)) (ret_bool HN.out)).mono ?_
        rintro e w2 ⟨rfl, hB2⟩
        go_wp2
        go_ret2
        rw [HV.out]
        exact ⟨rfl, below_call (hB.trans hB1) hB2⟩

/-- A list whose first k bytes are made small. -/
def lowTo (l : List UInt8) (k : Nat) : List UInt8 := (l.take k).map lower ++ l.drop k
theorem lowTo_len (l : List UInt8) (k : Nat) : (lowTo l k).length = l.length := by
  unfold lowTo
  rw [List.length_append, List.length_map, List.length_take, List.length_drop]
  omega
theorem lowTo_get (l : List UInt8) (k : Nat) (h : k < l.length) : (lowTo l k)[k]'(by rw [lowTo_len]; exact h) = l[k] := by
  unfold lowTo
  rw [List.getElem_append_right (by rw [List.length_map, List.length_take]; omega)]
  simp only [List.length_map, List.length_take, List.getElem_drop]
  congr 1
  omega
theorem lowTo_succ (l : List UInt8) (k : Nat) (h : k < l.length) : (lowTo l k).set k (lower l[k]) = lowTo l (k + 1) := by
  unfold lowTo
  have hl : ((l.take k).map lower).length = k := by rw [List.length_map, List.length_take]; omega
  rw [List.set_append_right k (lower l[k]) (by rw [hl]; exact Nat.le_refl _), hl, Nat.sub_self, List.drop_eq_getElem_cons h, List.set_cons_zero, List.take_succ_eq_append_getElem h, List.map_append]
  simp
theorem lowTo_same (l : List UInt8) (k : Nat) (h : k < l.length) (hs : lower l[k] = l[k]) : lowTo l k = lowTo l (k + 1) := by
  rw [← lowTo_succ l k h, hs, ← lowTo_get l k h]
  exact (List.set_getElem_self _).symm
theorem lowTo_all (l : List UInt8) : lowTo l l.length = l.map lower := by
  unfold lowTo
  rw [List.take_length, List.drop_length, List.append_nil]

set_option maxHeartbeats 1000000 in
set_option maxRecDepth 100000 in
theorem refFold_calls (s : ByteArray) (w : World) (hs : s.size ≤ 140737488351232) :
    Calls Try.prog 17 #[.string s] w fun e w' => e = .returned (.tuple #[.string (foldV s).1, .bool (foldV s).2]) ∧ Below w.heap.size w w' := by
  have kc := fun W : World => Lib.run_convert_string_bytes (P := Try.prog) W 9 39 5 s Try.underlying9 Try.underlying39 Try.underlying5
  have hg1 := grownCap_ge w s.size 0 5
  have hg2 := grownCap_le_maxLen w s.size 0 5 (by simp only [maxLen]; omega)
  go_enter Try.func17, Try.ntmps17
  go_wp2
  obtain ⟨cp, hcp⟩ : ∃ cp, cp = grownCap w s.size 0 5 := ⟨_, rfl⟩
  rw [← hcp] at hg1 hg2 ⊢
  clear hcp kc
  go_loopw [5] (fun v5 wr => ∃ k : Nat, v5 = .int .i64 k ∧ k ≤ s.size ∧ BytesAt 5 wr w.heap.size (lowTo s.data.toList k) ∧ Below w.heap.size w wr) (fun v5 _ => (s.size - intOf v5).toNat)
  case atStart =>
    refine ⟨0, rfl, Nat.zero_le _, ?_, below_bytes (Below.refl _ _) (Nat.le_refl _) _ _⟩
    have := (TextRow.new 5 w s (by simp only [maxLen]; omega)).bytes
    simpa [lowTo] using this
  case round =>
    obtain ⟨k, rfl, hk, hb, hB⟩ := hrel
    have hlt1 := hb.lt
    have hsl := size_eq_length s
    have HSL := Lib.hid hsl
    clear hsl
    by_cases hlt : k < s.size
    · have hlt' : k < s.data.toList.length := by rw [← HSL.out]; exact hlt
      obtain ⟨c, hcv⟩ : ∃ c : Nat, (s.data.toList[k]'hlt').toNat = c := ⟨_, rfl⟩
      have hc256 : c < 256 := by rw [← hcv]; exact UInt8.toNat_lt _
      have hcell : wr.cell? ⟨w.heap.size, k, none⟩ = some (.int .u8 c) := by rw [hb.cell k (by rw [lowTo_len]; exact hlt'), lowTo_get _ _ hlt', hcv]
      have hfree : wr.frozen? ⟨w.heap.size, k, none⟩ = false := hb.free k (by rw [lowTo_len]; exact hlt')
      have hlw := lower_nat s.data.toList[k]
      rw [hcv] at hlw
      have HL := Lib.hid hlw
      clear hlw
      have HC := Lib.hid hcv
      clear hcv
      obtain ⟨h1, h2⟩ | h1 | ⟨h1, h2⟩ : (65 ≤ c ∧ c ≤ 90) ∨ c < 65 ∨ (65 ≤ c ∧ 90 < c) := by omega
      · go_wp2
        go_roundw
        case rel =>
          refine ⟨k + 1, by go_num, by omega, ?_, hB.setCell (p := ⟨w.heap.size, k, none⟩) (Nat.le_refl _) _⟩
          have := hb.set k (lower s.data.toList[k])
          rw [lowTo_succ _ _ hlt', HL.out, if_pos (by omega)] at this
          exact this
        case measure => simp [intOf]; omega
      all_goals
        go_wp2
        go_roundw
        case rel =>
          refine ⟨k + 1, by go_num, by omega, ?_, hB⟩
          rw [← lowTo_same _ _ hlt' (by
            have := HL.out
            rw [if_neg (by omega)] at this
            apply UInt8.toNat_inj.1
            have := HC.out
            omega)]
          exact hb
        case measure => simp [intOf]; omega
    · obtain rfl : k = s.size := by omega
      have hall : lowTo s.data.toList s.size = s.data.toList.map lower := by rw [HSL.out]; exact lowTo_all _
      rw [hall] at hb
      have hlm : (s.data.toList.map lower).length = s.size := by rw [List.length_map, HSL.out]
      have hrow := hb.row (c := cp) (by omega) hg2
      rw [hlm] at hrow
      have hcv := hrow.string (P := Try.prog) Try.underlying39 Try.underlying5 Try.underlying9
      have hfs : strOf (s.data.toList.map lower) = foldS s := rfl
      rw [hfs] at hcv
      have hsz := foldS_size s
      have HS := Lib.hid hsz
      clear hfs hall hrow hlm hsz
      cases hn : isName (foldS s) with
      | true =>
        have HV : Hid (foldV s = (foldS s, true)) := by show _ = _; simp [foldV, hn]
        have HN := Lib.hid hn
        clear hn
        go_wp2_with fail
        refine (re_ (refIs_calls (foldS s) _ (by rw [HS.out]; exact hs)) (ret_bool HN.out)).mono ?_
        rintro e w2 ⟨rfl, rfl⟩
        go_wp2
        go_ret2
        rw [HV.out]
        exact ⟨rfl, hB⟩
      | false =>
        have HV : Hid (foldV s = (⟨#[]⟩, false)) := by show _ = _; simp [foldV, hn]
        have HN := Lib.hid hn
        clear hn
        go_wp2_with fail
        refine (re_ (refIs_calls (foldS s) _ (by rw [HS.out]; exact hs)) (ret_bool HN.out)).mono ?_
        rintro e w2 ⟨rfl, rfl⟩
        go_wp2
        go_ret2
        rw [HV.out]
        exact ⟨rfl, hB⟩
end Go.Proofs.Ytobhlcogopcbdaa
