/-
Contracts: lists of names, of the reference: a name put, two lists as one, alike, few.
Contracts: lists of names, of the reference: two lists as one, alike, few.
-/
import Derived.Test.YtocdoddmaopdbaaMergeB
import Derived.Deep.QuietTactic
import Derived.BigQuiet
namespace Go.Proofs.Ytocdoddmaopdbaa
open Go.RowKit Sp

theorem while_at {α : Type} (p : α → Bool) : ∀ (l : List α) (i : Nat), i ≤ l.length → (∀ j (h : j < l.length), j < i → p l[j] = true) → (∀ h : i < l.length, p l[i] = false) → l.takeWhile p = l.take i ∧ l.dropWhile p = l.drop i
  | [], i, hi, _, _ => by simp
  | a :: l, 0, _, _, h2 => by
    have := h2 (by simp)
    simp only [List.getElem_cons_zero] at this
    simp [this]
  | a :: l, i + 1, hi, h1, h2 => by
    have h0 := h1 0 (by simp) (by omega)
    simp only [List.getElem_cons_zero] at h0
    have ih := while_at p l i (by simpa using hi) (fun j h hj => by have := h1 (j + 1) (by simpa using h) (by omega); simpa using this) (fun h => by have := h2 (by simpa using h); simpa using this)
    simp [h0, ih.1, ih.2]

/-- What 'put' makes, at the place it comes to. -/
theorem insS_at (l : List ByteArray) (s : ByteArray) (i : Nat) (hi : i ≤ l.length) (h1 : ∀ j (h : j < l.length), j < i → less l[j] s = true) (h2 : ∀ h : i < l.length, less l[i] s = false) :
    insS l s = if l[i]? = some s then l else l.take i ++ s :: l.drop i := by
  obtain ⟨e1, e2⟩ := while_at (fun x => less x s) l i hi h1 h2
  unfold insS
  simp only [e1, e2, List.head?_drop]

def LessTo (l : List ByteArray) (s : ByteArray) (i : Nat) : Prop := ∀ j (h : j < l.length), j < i → less l[j] s = true
theorem LessTo.succ {l : List ByteArray} {s : ByteArray} {i : Nat} (h : LessTo l s i) (hi : ∀ h : i < l.length, less l[i] s = true) : LessTo l s (i + 1) := fun j hj hj1 => by
  rcases Nat.lt_or_ge j i with h' | h'
  · exact h j hj h'
  · obtain rfl : j = i := by omega
    exact hi hj

set_option maxHeartbeats 1000000 in
set_option maxRecDepth 100000 in
theorem refPutL_calls (n c : Nat) (A : Option Addr) (l : List ByteArray) (s : ByteArray) (w : World) (hl : Row enS 1 w (.slice A n c) l) (hn : n ≤ 1048576) :
    Calls Try.prog 32 #[.slice A n c, .string s] w fun e w' => ∃ v, e = .returned v ∧ Row enS 1 w' v (insS l s) ∧ Below w.heap.size w w' := by
  have EA := Lib.hid hl.len_eq
  have hcap : n ≤ c ∧ c ≤ 9223372036854775807 := by
    obtain ⟨A', c', he, h1, h2, _⟩ := hl
    injection he with e1 e2 e3
    subst e3
    simp only [maxLen] at h2
    omega
  obtain ⟨hc1, hc2⟩ := hcap
  go_enter Try.func32, Try.ntmps32
  go_wp2
  go_loop [5] (fun v5 => ∃ i : Nat, v5 = .int .i64 i ∧ i ≤ n ∧ Hid (LessTo l s i)) (fun v5 => (n - intOf v5).toNat)
  case atStart => exact ⟨0, rfl, Nat.zero_le _, fun j h hj => absurd hj (by omega)⟩
  case round =>
    obtain ⟨i, rfl, hi, HT⟩ := hrel
    by_cases hlt : i < n
    · have hk' : i < l.length := by have := EA.out; omega
      obtain ⟨ad, rfl, hcell⟩ := hl.get1 (f := Value.string) i hk'
      obtain ⟨x, hx⟩ : ∃ x, l[i] = x := ⟨_, rfl⟩
      rw [hx] at hcell
      have HX := Lib.hid hx
      clear hx
      cases hls : less x s with
      | true =>
        have HL := Lib.hid hls
        clear hls
        go_wp2_with (go_at_call 25; refine (re_ (refLess_calls x s _) (ret_bool HL.out)).mono ?_; rintro e w' ⟨rfl, rfl⟩)
        go_round
        case rel => exact ⟨i + 1, by go_num, by omega, HT.out.succ (fun h => by rw [HX.out]; exact HL.out)⟩
        case measure => simp [intOf]; omega
      | false =>
        have HL := Lib.hid hls
        clear hls
        have HI : Hid (insS l s = if l[i]? = some s then l else l.take i ++ s :: l.drop i) := insS_at l s i (by omega) HT.out (fun h => by rw [HX.out]; exact HL.out)
        by_cases hxs : x = s
        · subst hxs
          go_wp2_with (go_at_call 25; refine (re_ (refLess_calls _ _ _) (ret_bool HL.out)).mono ?_; rintro e w' ⟨rfl, rfl⟩)
          go_ret
          refine ⟨_, rfl, ?_, Below.refl _ _⟩
          rw [HI.out, if_pos (by rw [List.getElem?_eq_getElem hk', HX.out])]
          exact hl
        · have hb : (x.toList == s.toList) = false := by
            rw [beq_eq_false_iff_ne]
            exact fun e => hxs (toList_inj'.1 e)
          have hne : ¬ l[i]? = some s := by rw [List.getElem?_eq_getElem hk', HX.out]; simpa using hxs
          rw [Hid, if_neg hne] at HI
          have HI' := Lib.hid HI
          clear HI hne hxs
          have hb0 : Below w.heap.size w (w.alloc (.cells #[] 9)) := (Below.refl _ _).alloc (Nat.le_refl _) _
          have hdr : Row enS 1 w (.slice (some (ad.add i)) (n - i) (c - i)) (l.drop i) := by
            have := hl.drop enS_len i (by omega)
            rw [if_neg (by omega), Nat.mul_one] at this
            exact this
          go_wp2_with (first | (go_at_call 25; refine (re_ (refLess_calls _ _ _) (ret_bool HL.out)).mono ?_; rintro e w' ⟨rfl, rfl⟩) | (at_builtin; refine Own.appendRow (w0 := w) w.heap.size rfl (.tmp 34) (.tmp 37) 38 9 (.string ⟨#[]⟩) 1 16 rfl Try.underlying38 info_str rfl (by decide) (.slice (some ⟨w.heap.size, 0, none⟩) 0 0) (.slice (some ad) i c) [] (l.take i) rfl rfl enS_one (Own.lit enS_len w [] #[] 0 rfl rfl (Nat.le_refl _) (by omega)) ((hl.take enS_len i (by omega)).below hb0) hb0 (by simp) (by have := EA.out; simp <;> omega) (by have := EA.out; simp <;> omega) ?_; intro v1 w1 hO1 hB1 _ _) | (at_builtin; refine Own.append (w0 := w) w.heap.size rfl (.tmp 39) (.tmp 41) 38 9 (.string ⟨#[]⟩) 1 16 rfl Try.underlying38 info_str rfl (by decide) v1 ([] ++ l.take i) s [.string s] rfl rfl rfl rfl (by simp [Value.oneCell']) hO1 hB1 hB1.size (by have := EA.out; simp <;> omega) (by have := EA.out; simp <;> omega) ?_; intro v2 w2 hO2 hB2 _ _) | (at_builtin; (refine Own.appendRow (w0 := w) w.heap.size rfl (.tmp 43) (.tmp 46) 38 9 (.string ⟨#[]⟩) 1 16 rfl Try.underlying38 info_str rfl (by decide) v2 (.slice (some (ad.add i)) (n - i) (c - i)) ([] ++ l.take i ++ [s]) (l.drop i) rfl rfl enS_one hO2 (hdr.below hB2) hB2 hB2.size (by have := EA.out; simp <;> omega) (by have := EA.out; simp <;> omega) ?_); intro v3 w3 hO3 hB3 _ _))
          go_ret
          refine ⟨_, rfl, ?_, hB3⟩
          rw [HI'.out]
          have := hO3.row
          simpa using this
    · have hin : i = n := by omega
      subst hin
      have hb0 : Below w.heap.size w (w.alloc (.cells #[] 9)) := (Below.refl _ _).alloc (Nat.le_refl _) _
      obtain h0 | h0 : i = 0 ∨ 0 < i := by omega
      · subst h0
        have HI : Hid (insS l s = l.take 0 ++ s :: []) := by
          have h1 : 0 = l.length := by have := EA.out; omega
          have := insS_at l s 0 (by omega) HT.out (fun h => by omega)
          rw [this, if_neg (by rw [List.getElem?_eq_none (by omega)]; simp), List.drop_eq_nil_of_le (by omega)]
          rfl
        go_wp2_with (first | (at_builtin; refine Own.appendRow (w0 := w) w.heap.size rfl (.tmp 34) (.tmp 37) 38 9 (.string ⟨#[]⟩) 1 16 rfl Try.underlying38 info_str rfl (by decide) (.slice (some ⟨w.heap.size, 0, none⟩) 0 0) (.slice A 0 c) [] (l.take 0) rfl rfl enS_one (Own.lit enS_len w [] #[] 0 rfl rfl (Nat.le_refl _) (by omega)) ((hl.take enS_len 0 (by omega)).below hb0) hb0 (by simp) (by have := EA.out; simp <;> omega) (by have := EA.out; simp <;> omega) ?_; intro v1 w1 hO1 hB1 _ _) | (at_builtin; refine Own.append (w0 := w) w.heap.size rfl (.tmp 39) (.tmp 41) 38 9 (.string ⟨#[]⟩) 1 16 rfl Try.underlying38 info_str rfl (by decide) v1 ([] ++ l.take 0) s [.string s] rfl rfl rfl rfl (by simp [Value.oneCell']) hO1 hB1 hB1.size (by have := EA.out; simp <;> omega) (by have := EA.out; simp <;> omega) ?_; intro v2 w2 hO2 hB2 _ _) | (at_builtin; (refine Own.appendRow (w0 := w) w.heap.size rfl (.tmp 43) (.tmp 46) 38 9 (.string ⟨#[]⟩) 1 16 rfl Try.underlying38 info_str rfl (by decide) v2 _ ([] ++ l.take 0 ++ [s]) [] rfl rfl enS_one hO2 (Row.empty enS 1 _ _ _ (by omega)) hB2 hB2.size (by have := EA.out; simp <;> omega) (by have := EA.out; simp <;> omega) ?_); intro v3 w3 hO3 hB3 _ _))
        all_goals
          go_ret
          refine ⟨_, rfl, ?_, by assumption⟩
          rw [HI.out]
          have := hO3.row
          simpa using this
      · by_cases hci : c = i
        · subst hci
          have HI : Hid (insS l s = l.take c ++ s :: []) := by
            have h1 : c = l.length := by have := EA.out; omega
            have := insS_at l s c (by omega) HT.out (fun h => by omega)
            rw [this, if_neg (by rw [List.getElem?_eq_none (by omega)]; simp), List.drop_eq_nil_of_le (by omega)]
            rfl
          go_wp2_with (first | (at_builtin; refine Own.appendRow (w0 := w) w.heap.size rfl (.tmp 34) (.tmp 37) 38 9 (.string ⟨#[]⟩) 1 16 rfl Try.underlying38 info_str rfl (by decide) (.slice (some ⟨w.heap.size, 0, none⟩) 0 0) (.slice A c c) [] (l.take c) rfl rfl enS_one (Own.lit enS_len w [] #[] 0 rfl rfl (Nat.le_refl _) (by omega)) ((hl.take enS_len c (by omega)).below hb0) hb0 (by simp) (by have := EA.out; simp <;> omega) (by have := EA.out; simp <;> omega) ?_; intro v1 w1 hO1 hB1 _ _) | (at_builtin; refine Own.append (w0 := w) w.heap.size rfl (.tmp 39) (.tmp 41) 38 9 (.string ⟨#[]⟩) 1 16 rfl Try.underlying38 info_str rfl (by decide) v1 ([] ++ l.take c) s [.string s] rfl rfl rfl rfl (by simp [Value.oneCell']) hO1 hB1 hB1.size (by have := EA.out; simp <;> omega) (by have := EA.out; simp <;> omega) ?_; intro v2 w2 hO2 hB2 _ _) | (at_builtin; (refine Own.appendRow (w0 := w) w.heap.size rfl (.tmp 43) (.tmp 46) 38 9 (.string ⟨#[]⟩) 1 16 rfl Try.underlying38 info_str rfl (by decide) v2 _ ([] ++ l.take c ++ [s]) [] rfl rfl enS_one hO2 (Row.empty enS 1 _ _ _ (by omega)) hB2 hB2.size (by have := EA.out; simp <;> omega) (by have := EA.out; simp <;> omega) ?_); intro v3 w3 hO3 hB3 _ _))
          all_goals
            go_ret
            refine ⟨_, rfl, ?_, by assumption⟩
            rw [HI.out]
            have := hO3.row
            simpa using this
        · have hci' : i < c := by omega
          clear hci
          have HI : Hid (insS l s = l.take i ++ s :: []) := by
            have h1 : i = l.length := by have := EA.out; omega
            have := insS_at l s i (by omega) HT.out (fun h => by omega)
            rw [this, if_neg (by rw [List.getElem?_eq_none (by omega)]; simp), List.drop_eq_nil_of_le (by omega)]
            rfl
          go_wp2_with (first | (at_builtin; refine Own.appendRow (w0 := w) w.heap.size rfl (.tmp 34) (.tmp 37) 38 9 (.string ⟨#[]⟩) 1 16 rfl Try.underlying38 info_str rfl (by decide) (.slice (some ⟨w.heap.size, 0, none⟩) 0 0) (.slice A i c) [] (l.take i) rfl rfl enS_one (Own.lit enS_len w [] #[] 0 rfl rfl (Nat.le_refl _) (by omega)) ((hl.take enS_len i (by omega)).below hb0) hb0 (by simp) (by have := EA.out; simp <;> omega) (by have := EA.out; simp <;> omega) ?_; intro v1 w1 hO1 hB1 _ _) | (at_builtin; refine Own.append (w0 := w) w.heap.size rfl (.tmp 39) (.tmp 41) 38 9 (.string ⟨#[]⟩) 1 16 rfl Try.underlying38 info_str rfl (by decide) v1 ([] ++ l.take i) s [.string s] rfl rfl rfl rfl (by simp [Value.oneCell']) hO1 hB1 hB1.size (by have := EA.out; simp <;> omega) (by have := EA.out; simp <;> omega) ?_; intro v2 w2 hO2 hB2 _ _) | (at_builtin; (refine Own.appendRow (w0 := w) w.heap.size rfl (.tmp 43) (.tmp 46) 38 9 (.string ⟨#[]⟩) 1 16 rfl Try.underlying38 info_str rfl (by decide) v2 _ ([] ++ l.take i ++ [s]) [] rfl rfl enS_one hO2 (Row.empty enS 1 _ _ _ (by omega)) hB2 hB2.size (by have := EA.out; simp <;> omega) (by have := EA.out; simp <;> omega) ?_); intro v3 w3 hO3 hB3 _ _))
          all_goals
            go_ret
            refine ⟨_, rfl, ?_, by assumption⟩
            rw [HI.out]
            have := hO3.row
            simpa using this
end Go.Proofs.Ytocdoddmaopdbaa
namespace Go.Proofs.Ytocdoddmaopdbaa
open Go.RowKit Sp

def few (l : List ByteArray) (most bytes : Int) : Bool := decide ((l.length : Int) ≤ most) && l.all fun s => decide ((s.size : Int) ≤ bytes)

theorem take_eq_succ (a b : List ByteArray) (i : Nat) (ha : i < a.length) (hb : i < b.length) (h : a.take i = b.take i) (he : a[i] = b[i]) : a.take (i + 1) = b.take (i + 1) := by
  rw [List.take_succ_eq_append_getElem ha, List.take_succ_eq_append_getElem hb, h, he]

set_option maxHeartbeats 1000000 in
set_option maxRecDepth 100000 in
theorem refSame_calls (n c m d : Nat) (A B : Option Addr) (a b : List ByteArray) (w : World) (ha : Row enS 1 w (.slice A n c) a) (hb : Row enS 1 w (.slice B m d) b) :
    Calls Try.prog 19 #[.slice A n c, .slice B m d] w fun e w' => e = .returned (.bool (decide (a = b))) ∧ Below w.heap.size w w' := by
  have hn := ha.len
  have ea := ha.len_eq
  have eb := hb.len_eq
  have hn2 : n ≤ 9223372036854775807 := by omega
  have EA := Lib.hid ea
  have EB := Lib.hid eb
  clear ea eb hn
  by_cases hm : n = m
  · subst hm
    go_enter Try.func19, Try.ntmps19
    go_wp2
    go_loopw [5] (fun v5 wr => ∃ i q : Nat, v5 = .int .i64 i ∧ i ≤ n ∧ wr = w.drewN q ∧ Hid (a.take i = b.take i)) (fun v5 _ => (n - intOf v5).toNat)
    case atStart => exact ⟨0, 0, rfl, Nat.zero_le _, rfl, by show _ = _; simp⟩
    case round =>
      obtain ⟨i, q, rfl, hi, rfl, HT⟩ := hrel
      by_cases hlt : i < n
      · have hka : i < a.length := by have := EA.out; omega
        have hkb : i < b.length := by have := EB.out; omega
        obtain ⟨ad, rfl, hca⟩ := ha.get1 (f := Value.string) i hka
        obtain ⟨bd, rfl, hcb⟩ := hb.get1 (f := Value.string) i hkb
        by_cases hx : a[i] = b[i]
        · have HT2 : Hid (a.take (i + 1) = b.take (i + 1)) := take_eq_succ a b i hka hkb HT.out hx
          rw [← hx] at hcb
          have hne : (!(a[i].toList == a[i].toList)) = false := by simp
          clear hx
          go_wp2
          go_quiet (fail)
          go_wp2
          exact ⟨⟨i + 1, _, by go_num, by omega, rfl, HT2⟩, by simp [intOf]; omega⟩
        · have HV : Hid (decide (a = b) = false) := by
            refine decide_eq_false fun e => hx ?_
            subst e
            rfl
          have hne : (!(a[i].toList == b[i].toList)) = true := by
            simp only [Bool.not_eq_true', beq_eq_false_iff_ne]
            exact fun e => hx (toList_inj'.1 e)
          clear hx
          go_wp2
          go_quiet (fail)
          go_wp2
          go_ret
          exact ⟨ret_bool HV.out.symm, by repeat (first | exact Below.refl _ _ | apply below_drewN)⟩
      · have HV : Hid (decide (a = b) = true) := by
          refine decide_eq_true ?_
          have := HT.out
          rw [List.take_of_length_le (by have := EA.out; omega), List.take_of_length_le (by have := EB.out; omega)] at this
          exact this
        go_wp2
        go_ret
        exact ⟨ret_bool HV.out.symm, by repeat (first | exact Below.refl _ _ | apply below_drewN)⟩
  · have HV : Hid (decide (a = b) = false) := by
      refine decide_eq_false fun e => hm ?_
      have h1 := EA.out
      have h2 := EB.out
      rw [e] at h1
      omega
    have hb1 : ((n : Int) != m) = true := by simp; omega
    have hb2 : (n != m) = true := by simp; omega
    have hb3 : (!(n == m)) = true := by simp; omega
    clear hm
    go_enter Try.func19, Try.ntmps19
    go_wp2
    go_ret
    exact ⟨ret_bool HV.out.symm, Below.refl _ _⟩

set_option maxHeartbeats 1000000 in
set_option maxRecDepth 100000 in
theorem refMerge_calls (n c m d : Nat) (A B : Option Addr) (a b : List ByteArray) (w : World) (ha : Row enS 1 w (.slice A n c) a) (hb : Row enS 1 w (.slice B m d) b) (hn : n ≤ 262144) (hm : m ≤ 262144) :
    Calls Try.prog 24 #[.slice A n c, .slice B m d] w fun e w' => ∃ v, e = .returned v ∧ Row enS 1 w' v (mergeS a b) ∧ Below w.heap.size w w' := by
  have EA := Lib.hid ha.len_eq
  have EB := Lib.hid hb.len_eq
  go_enter Try.func24, Try.ntmps24
  go_wp2
  go_loopw [5, 6] (fun v5 v6 wr => ∃ i : Nat, v6 = .int .i64 i ∧ i ≤ n ∧ Row enS 1 wr v5 ((a.take i).foldl insS []) ∧ Below w.heap.size w wr) (fun _ v6 _ => (n - intOf v6).toNat)
  case atStart => exact ⟨0, rfl, Nat.zero_le _, Row.nil _ _ _, Below.refl _ _⟩
  case round =>
    obtain ⟨i, rfl, hi, hR, hB⟩ := hrel
    have hlen := fold_len (a.take i) []
    have hti : (a.take i).length ≤ i := List.length_take_le _ _
    by_cases hlt : i < n
    · have hk' : i < a.length := by have := EA.out; omega
      obtain ⟨ad, rfl, hcell0⟩ := ha.get1 (f := Value.string) i hk'
      have hcell := cell_below hB hcell0
      clear hcell0
      obtain ⟨A5, c5, rfl, _⟩ := id hR
      have hl5 := hR.len_eq
      obtain ⟨n5, hn5⟩ : ∃ n5, n5 = ((a.take i).foldl insS []).length := ⟨_, rfl⟩
      rw [← hn5] at hR hlen ⊢
      clear hl5 hn5
      go_wp2_with (go_at_call 32; refine (refPutL_calls _ _ _ _ _ _ hR (by simp at hlen; omega)).mono ?_)
      rintro e w1 ⟨v1, rfl, hR1, hB1⟩
      go_wp2
      go_roundw
      case rel =>
        refine ⟨i + 1, by go_num, by omega, ?_, below_call hB hB1⟩
        rw [List.take_succ_eq_append_getElem hk', List.foldl_append]
        exact hR1
      case measure => simp [intOf]; omega
    · have hfull : a.take i = a := List.take_of_length_le (by have := EA.out; omega)
      rw [hfull] at hR hlen
      clear hfull
      go_wp2
      have HF : Hid True := trivial
      obtain ⟨v50, hv50⟩ : ∃ v, v = u5 := ⟨_, rfl⟩
      rw [← hv50] at hR ⊢
      clear hv50
      obtain ⟨wo, hwo⟩ : ∃ wo : World, wo = wr := ⟨_, rfl⟩
      rw [← hwo] at hR hB ⊢
      clear hwo
      have hR0 := hR
      have hB0 := hB
      clear hR hB
      go_loopw [5, 7] (fun v5 v7 wr => ∃ k : Nat, v7 = .int .i64 k ∧ k ≤ m ∧ Row enS 1 wr v5 ((b.take k).foldl insS (a.foldl insS [])) ∧ Below w.heap.size w wr) (fun _ v7 _ => (m - intOf v7).toNat)
      case atStart => exact ⟨0, rfl, Nat.zero_le _, hR0, hB0⟩
      case round =>
        obtain ⟨k, rfl, hk, hR, hB⟩ := hrel
        have hlen2 := fold_len (b.take k) (a.foldl insS [])
        have htk : (b.take k).length ≤ k := List.length_take_le _ _
        have hal : a.length ≤ n := by have := EA.out; omega
        have hlen3 := fold_len a []
        by_cases hlt2 : k < m
        · have hk' : k < b.length := by have := EB.out; omega
          obtain ⟨ad, rfl, hcell0⟩ := hb.get1 (f := Value.string) k hk'
          have hcell := cell_below hB hcell0
          clear hcell0
          obtain ⟨A5, c5, rfl, _⟩ := id hR
          obtain ⟨n5, hn5⟩ : ∃ n5, n5 = ((b.take k).foldl insS (a.foldl insS [])).length := ⟨_, rfl⟩
          rw [← hn5] at hR hlen2 ⊢
          clear hn5
          have hn5b : n5 ≤ 1048576 := by simp at hlen3; omega
          clear hlen2 hlen3 hlen
          go_wp2_with (go_at_call 32; refine (refPutL_calls _ _ _ _ _ _ hR hn5b).mono ?_)
          rintro e w1 ⟨v1, rfl, hR1, hB1⟩
          go_wp2
          go_roundw
          case rel =>
            refine ⟨k + 1, by go_num, by omega, ?_, below_call hB hB1⟩
            rw [List.take_succ_eq_append_getElem hk', List.foldl_append]
            exact hR1
          case measure => simp [intOf]; omega
        · have hfull : b.take k = b := List.take_of_length_le (by have := EB.out; omega)
          rw [hfull, ← List.foldl_append] at hR
          clear hfull
          go_wp2
          go_ret
          exact ⟨_, rfl, hR, hB⟩
end Go.Proofs.Ytocdoddmaopdbaa
