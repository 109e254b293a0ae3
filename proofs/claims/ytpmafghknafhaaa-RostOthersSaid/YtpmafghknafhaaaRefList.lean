/-
Contracts: lists of names, of the reference: a name put, two lists as one, alike, few.
-/
import Derived.Test.YtpmafghknafhaaaMergeB
import Derived.Deep.QuietTactic
import Derived.BigQuiet
namespace Go.Proofs.Ytpmafghknafhaaa
open Go.RowKit Sp

theorem while_at {α : Type} (p : α → Bool) : ∀ (l : List α) (i : Nat), i ≤ l.length → (∀ j (h : j < l.length), j < i → p l[j] = true) → (∀ h : i < l.length, p l[i] = false) → l.takeWhile p = l.take i ∧ l.dropWhile p = l.drop i
  | [], i, hi, _, _ => by simp
  | a :: l, 0, _, _, h2 => by
    have := h2 (by simp)
    simp only [List.getElem_cons_zero] at this
    simp [this]
  | a :: l, i + 1, hi, h1, h2 => by
    have h0 := h1 0 (by simp) (by omega)
    simp only [List.getElem_cons_zero] at h0
    have ih := while_at p l i (by simpa using hi) (fun j h hj => by have := h1 (j + 1) (by simpa using h) (by omega); simpa using this) (fun h => by have := h2 (by simpa using h); simpa using this)
    simp [h0, ih.1, ih.2]

/-- What 'put' makes, at the place it comes to. -/
theorem insS_at (l : List ByteArray) (s : ByteArray) (i : Nat) (hi : i ≤ l.length) (h1 : ∀ j (h : j < l.length), j < i → less l[j] s = true) (h2 : ∀ h : i < l.length, less l[i] s = false) :
    insS l s = if l[i]? = some s then l else l.take i ++ s :: l.drop i := by
  obtain ⟨e1, e2⟩ := while_at (fun x => less x s) l i hi h1 h2
  unfold insS
  simp only [e1, e2, List.head?_drop]

def LessTo (l : List ByteArray) (s : ByteArray) (i : Nat) : Prop := ∀ j (h : j < l.length), j < i → less l[j] s = true
theorem LessTo.succ {l : List ByteArray} {s : ByteArray} {i : Nat} (h : LessTo l s i) (hi : ∀ h : i < l.length, less l[i] s = true) : LessTo l s (i + 1) := fun j hj hj1 => by
  rcases Nat.lt_or_ge j i with h' | h'
  · exact h j hj h'
  · obtain rfl : j = i := by omega
    exact hi hj

set_option maxHeartbeats 1000000 in
set_option maxRecDepth 100000 in
theorem refPutL_calls (n c : Nat) (A : Option Addr) (l : List ByteArray) (s : ByteArray) (w : World) (hl : Row enS 1 w (.slice A n c) l) (hn : n ≤ 1048576) :
    Calls Try.prog 61 #[.slice A n c, .string s] w fun e w' => ∃ v, e = .returned v ∧ Row enS 1 w' v (insS l s) ∧ Below w.heap.size w w' := by
  have EA := Lib.hid hl.len_eq
  have hcap : n ≤ c ∧ c ≤ 9223372036854775807 := by
    obtain ⟨A', c', he, h1, h2, _⟩ := hl
    injection he with e1 e2 e3
    subst e3
    simp only [maxLen] at h2
    omega
  obtain ⟨hc1, hc2⟩ := hcap
  go_enter Try.func61, Try.ntmps61
  go_wp2
  go_loop [5] (fun v5 => ∃ i : Nat, v5 = .int .i64 i ∧ i ≤ n ∧ Hid (LessTo l s i)) (fun v5 => (n - intOf v5).toNat)
  case atStart => exact ⟨0, rfl, Nat.zero_le _, fun j h hj => absurd hj (by omega)⟩
  case round =>
    obtain ⟨i, rfl, hi, HT⟩ := hrel
    by_cases hlt : i < n
    · have hk' : i < l.length := by have := EA.out; omega
      obtain ⟨ad, rfl, hcell⟩ := hl.get1 (f := Value.string) i hk'
      obtain ⟨x, hx⟩ : ∃ x, l[i] = x := ⟨_, rfl⟩
      rw [hx] at hcell
      have HX := Lib.hid hx
      clear hx
      cases hls : less x s with
      | true =>
        have HL := Lib.hid hls
        clear hls
        go_wp2_with (go_at_call 28; refine (re_ (refLess_calls x s _) (ret_bool HL.out)).mono ?_; rintro e w' ⟨rfl, rfl⟩)
        go_round
        case rel => exact ⟨i + 1, by go_num, by omega, HT.out.succ (fun h => by rw [HX.out]; exact HL.out)⟩
        case measure => simp [intOf]; omega
      | false =>
        have HL := Lib.hid hls
        clear hls
        have HI : Hid (insS l s = if l[i]? = some s then l else l.take i ++ s :: l.drop i) := insS_at l s i (by omega) HT.out (fun h => by rw [HX.out]; exact HL.out)
        by_cases hxs : x = s
        · subst hxs
          go_wp2_with (go_at_call 28; refine (re_ (refLess_calls _ _ _) (ret_bool HL.out)).mono ?_; rintro e w' ⟨rfl, rfl⟩)
          go_ret
          refine ⟨_, rfl, ?_, Below.refl _ _⟩
          rw [HI.out, if_pos (by rw [List.getElem?_eq_getElem hk', HX.out])]
          exact hl
        · have hb : (x.toList == s.toList) = false := by
            rw [beq_eq_false_iff_ne]
            exact fun e => hxs (toList_inj'.1 e)
          have hne : ¬ l[i]? = some s := by rw [List.getElem?_eq_getElem hk', HX.out]; simpa using hxs
          rw [Hid, if_neg hne] at HI
          have HI' := Lib.hid HI
          clear HI hne hxs
          have hb0 : Below w.heap.size w (w.alloc (.cells #[] 9)) := (Below.refl _ _).alloc (Nat.le_refl _) _
          have hdr : Row enS 1 w (.slice (some (ad.add i)) (n - i) (c - i)) (l.drop i) := by
            have := hl.drop enS_len i (by omega)
            rw [if_neg (by omega), Nat.mul_one] at this
            exact this
          go_wp2_with (first | (go_at_call 28; refine (re_ (refLess_calls _ _ _) (ret_bool HL.out)).mono ?_; rintro e w' ⟨rfl, rfl⟩) | (at_builtin; refine Own.appendRow (w0 := w) w.heap.size rfl (.tmp 34) (.tmp 37) 29 9 (.string ⟨#[]⟩) 1 16 rfl Try.underlying29 info_str rfl (by decide) (.slice (some ⟨w.heap.size, 0, none⟩) 0 0) (.slice (some ad) i c) [] (l.take i) rfl rfl enS_one (Own.lit enS_len w [] #[] 0 rfl rfl (Nat.le_refl _) (by omega)) ((hl.take enS_len i (by omega)).below hb0) hb0 (by simp) (by have := EA.out; simp <;> omega) (by have := EA.out; simp <;> omega) ?_; intro v1 w1 hO1 hB1 _ _) | (at_builtin; refine Own.append (w0 := w) w.heap.size rfl (.tmp 39) (.tmp 41) 29 9 (.string ⟨#[]⟩) 1 16 rfl Try.underlying29 info_str rfl (by decide) v1 ([] ++ l.take i) s [.string s] rfl rfl rfl rfl (by simp [Value.oneCell']) hO1 hB1 hB1.size (by have := EA.out; simp <;> omega) (by have := EA.out; simp <;> omega) ?_; intro v2 w2 hO2 hB2 _ _) | (at_builtin; (refine Own.appendRow (w0 := w) w.heap.size rfl (.tmp 43) (.tmp 46) 29 9 (.string ⟨#[]⟩) 1 16 rfl Try.underlying29 info_str rfl (by decide) v2 (.slice (some (ad.add i)) (n - i) (c - i)) ([] ++ l.take i ++ [s]) (l.drop i) rfl rfl enS_one hO2 (hdr.below hB2) hB2 hB2.size (by have := EA.out; simp <;> omega) (by have := EA.out; simp <;> omega) ?_); intro v3 w3 hO3 hB3 _ _))
          go_ret
          refine ⟨_, rfl, ?_, hB3⟩
          rw [HI'.out]
          have := hO3.row
          simpa using this
    · have hin : i = n := by omega
      subst hin
      have hb0 : Below w.heap.size w (w.alloc (.cells #[] 9)) := (Below.refl _ _).alloc (Nat.le_refl _) _
      obtain h0 | h0 : i = 0 ∨ 0 < i := by omega
      · subst h0
        have HI : Hid (insS l s = l.take 0 ++ s :: []) := by
          have h1 : 0 = l.length := by have := EA.out; omega
          have := insS_at l s 0 (by omega) HT.out (fun h => by omega)
          rw [this, if_neg (by rw [List.getElem?_eq_none (by omega)]; simp), List.drop_eq_nil_of_le (by omega)]
          rfl
        go_wp2_with (first | (at_builtin; refine Own.appendRow (w0 := w) w.heap.size rfl (.tmp 34) (.tmp 37) 29 9 (.string ⟨#[]⟩) 1 16 rfl Try.underlying29 info_str rfl (by decide) (.slice (some ⟨w.heap.size, 0, none⟩) 0 0) (.slice A 0 c) [] (l.take 0) rfl rfl enS_one (Own.lit enS_len w [] #[] 0 rfl rfl (Nat.le_refl _) (by omega)) ((hl.take enS_len 0 (by omega)).below hb0) hb0 (by simp) (by have := EA.out; simp <;> omega) (by have := EA.out; simp <;> omega) ?_; intro v1 w1 hO1 hB1 _ _) | (at_builtin; refine Own.append (w0 := w) w.heap.size rfl (.tmp 39) (.tmp 41) 29 9 (.string ⟨#[]⟩) 1 16 rfl Try.underlying29 info_str rfl (by decide) v1 ([] ++ l.take 0) s [.string s] rfl rfl rfl rfl (by simp [Value.oneCell']) hO1 hB1 hB1.size (by have := EA.out; simp <;> omega) (by have := EA.out; simp <;> omega) ?_; intro v2 w2 hO2 hB2 _ _) | (at_builtin; (refine Own.appendRow (w0 := w) w.heap.size rfl (.tmp 43) (.tmp 46) 29 9 (.string ⟨#[]⟩) 1 16 rfl Try.underlying29 info_str rfl (by decide) v2 _ ([] ++ l.take 0 ++ [s]) [] rfl rfl enS_one hO2 (Row.empty enS 1 _ _ _ (by omega)) hB2 hB2.size (by have := EA.out; simp <;> omega) (by have := EA.out; simp <;> omega) ?_); intro v3 w3 hO3 hB3 _ _))
        all_goals
          go_ret
          refine ⟨_, rfl, ?_, by assumption⟩
          rw [HI.out]
          have := hO3.row
          simpa using this
      · by_cases hci : c = i
        · subst hci
          have HI : Hid (insS l s = l.take c ++ s :: []) := by
            have h1 : c = l.length := by have := EA.out; omega
            have := insS_at l s c (by omega) HT.out (fun h => by omega)
            rw [this, if_neg (by rw [List.getElem?_eq_none (by omega)]; simp), List.drop_eq_nil_of_le (by omega)]
            rfl
          go_wp2_with (first | (at_builtin; refine Own.appendRow (w0 := w) w.heap.size rfl (.tmp 34) (.tmp 37) 29 9 (.string ⟨#[]⟩) 1 16 rfl Try.underlying29 info_str rfl (by decide) (.slice (some ⟨w.heap.size, 0, none⟩) 0 0) (.slice A c c) [] (l.take c) rfl rfl enS_one (Own.lit enS_len w [] #[] 0 rfl rfl (Nat.le_refl _) (by omega)) ((hl.take enS_len c (by omega)).below hb0) hb0 (by simp) (by have := EA.out; simp <;> omega) (by have := EA.out; simp <;> omega) ?_; intro v1 w1 hO1 hB1 _ _) | (at_builtin; refine Own.append (w0 := w) w.heap.size rfl (.tmp 39) (.tmp 41) 29 9 (.string ⟨#[]⟩) 1 16 rfl Try.underlying29 info_str rfl (by decide) v1 ([] ++ l.take c) s [.string s] rfl rfl rfl rfl (by simp [Value.oneCell']) hO1 hB1 hB1.size (by have := EA.out; simp <;> omega) (by have := EA.out; simp <;> omega) ?_; intro v2 w2 hO2 hB2 _ _) | (at_builtin; (refine Own.appendRow (w0 := w) w.heap.size rfl (.tmp 43) (.tmp 46) 29 9 (.string ⟨#[]⟩) 1 16 rfl Try.underlying29 info_str rfl (by decide) v2 _ ([] ++ l.take c ++ [s]) [] rfl rfl enS_one hO2 (Row.empty enS 1 _ _ _ (by omega)) hB2 hB2.size (by have := EA.out; simp <;> omega) (by have := EA.out; simp <;> omega) ?_); intro v3 w3 hO3 hB3 _ _))
          all_goals
            go_ret
            refine ⟨_, rfl, ?_, by assumption⟩
            rw [HI.out]
            have := hO3.row
            simpa using this
        · have hci' : i < c := by omega
          clear hci
          have HI : Hid (insS l s = l.take i ++ s :: []) := by
            have h1 : i = l.length := by have := EA.out; omega
            have := insS_at l s i (by omega) HT.out (fun h => by omega)
            rw [this, if_neg (by rw [List.getElem?_eq_none (by omega)]; simp), List.drop_eq_nil_of_le (by omega)]
            rfl
          go_wp2_with (first | (at_builtin; refine Own.appendRow (w0 := w) w.heap.size rfl (.tmp 34) (.tmp 37) 29 9 (.string ⟨#[]⟩) 1 16 rfl Try.underlying29 info_str rfl (by decide) (.slice (some ⟨w.heap.size, 0, none⟩) 0 0) (.slice A i c) [] (l.take i) rfl rfl enS_one (Own.lit enS_len w [] #[] 0 rfl rfl (Nat.le_refl _) (by omega)) ((hl.take enS_len i (by omega)).below hb0) hb0 (by simp) (by have := EA.out; simp <;> omega) (by have := EA.out; simp <;> omega) ?_; intro v1 w1 hO1 hB1 _ _) | (at_builtin; refine Own.append (w0 := w) w.heap.size rfl (.tmp 39) (.tmp 41) 29 9 (.string ⟨#[]⟩) 1 16 rfl Try.underlying29 info_str rfl (by decide) v1 ([] ++ l.take i) s [.string s] rfl rfl rfl rfl (by simp [Value.oneCell']) hO1 hB1 hB1.size (by have := EA.out; simp <;> omega) (by have := EA.out; simp <;> omega) ?_; intro v2 w2 hO2 hB2 _ _) | (at_builtin; (refine Own.appendRow (w0 := w) w.heap.size rfl (.tmp 43) (.tmp 46) 29 9 (.string ⟨#[]⟩) 1 16 rfl Try.underlying29 info_str rfl (by decide) v2 _ ([] ++ l.take i ++ [s]) [] rfl rfl enS_one hO2 (Row.empty enS 1 _ _ _ (by omega)) hB2 hB2.size (by have := EA.out; simp <;> omega) (by have := EA.out; simp <;> omega) ?_); intro v3 w3 hO3 hB3 _ _))
          all_goals
            go_ret
            refine ⟨_, rfl, ?_, by assumption⟩
            rw [HI.out]
            have := hO3.row
            simpa using this
end Go.Proofs.Ytpmafghknafhaaa
