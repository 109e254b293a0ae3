/-
The walk of the statement IdentMerges: it returns true whatever the input.
-/
import Derived.Test.YtobhlcogopcbdaaLaw03a
import Derived.Deep.RegionHeld3
namespace Go.Proofs.Ytobhlcogopcbdaa
open Go.RowKit Sp

theorem few_len (l : List ByteArray) (h : few l 30 30 = true) : l.length ≤ 30 := by
  unfold few at h
  rw [Bool.and_eq_true] at h
  have := of_decide_eq_true h.1
  omega
theorem few_is (n c : Nat) (A : Option Addr) (l : List ByteArray) (most bytes : Int) (b : Bool) (w : World) (hl : Row enS 1 w (.slice A n c) l) (h : Hid (few l most bytes = b)) :
    Calls Try.prog 24 #[.slice A n c, .int .i64 most, .int .i64 bytes] w fun e w' => e = .returned (.bool b) ∧ w = w' := re_ (refFew_calls n c A l most bytes w hl) (by rw [h.out])

set_option maxHeartbeats 4000000 in
set_option maxRecDepth 100000 in
theorem merges_walk (n c : Nat) (A : Option Addr) (a : List ByteArray) (m d : Nat) (B : Option Addr) (b : List ByteArray) (w : World) (ha : Row enS 1 w (.slice A n c) a) (hb : Row enS 1 w (.slice B m d) b) :
    Calls Try.prog 5 #[.slice A n c, .slice B m d] w fun e w' => e = .returned (.bool true) ∧ Below w.heap.size w w' := by
  cases hfa : few a 30 30 with
  | false =>
    have H1 := Lib.hid hfa
    clear hfa
    go_enter Try.func5, Try.ntmps5
    go_wp2_with fail
    refine (few_is n c A a 30 30 false _ ha H1).mono ?_
    rintro e w1 ⟨rfl, rfl⟩
    go_wp2_with fail
    refine (live03 _).mono ?_
    rintro e w2 ⟨rfl, b2⟩
    go_wp2
    go_ret
    exact ⟨rfl, b2⟩
  | true =>
  cases hfb : few b 30 30 with
  | false =>
    have H1 := Lib.hid hfa
    have H2 := Lib.hid hfb
    clear hfa hfb
    go_enter Try.func5, Try.ntmps5
    go_wp2_with fail
    refine (few_is n c A a 30 30 true _ ha H1).mono ?_
    rintro e w1 ⟨rfl, rfl⟩
    go_wp2_with fail
    refine (few_is m d B b 30 30 false _ hb H2).mono ?_
    rintro e w1 ⟨rfl, rfl⟩
    go_wp2_with fail
    refine (live03 _).mono ?_
    rintro e w2 ⟨rfl, b2⟩
    go_wp2
    go_ret
    exact ⟨rfl, b2⟩
  | true =>
    have hna := few_len a hfa
    have hnb := few_len b hfb
    have ea := ha.len_eq
    have eb := hb.len_eq
    have hn : n ≤ 30 := by omega
    have hm : m ≤ 30 := by omega
    have H1 := Lib.hid hfa
    have H2 := Lib.hid hfb
    have EA := Lib.hid ea
    have EB := Lib.hid eb
    clear hfa hfb ea eb hna hnb
    go_enter Try.func5, Try.ntmps5
    go_wp2_with fail
    refine (few_is n c A a 30 30 true _ ha H1).mono ?_
    rintro e w1 ⟨rfl, rfl⟩
    go_wp2_with fail
    refine (few_is m d B b 30 30 true _ hb H2).mono ?_
    rintro e w1 ⟨rfl, rfl⟩
    go_wp2_with fail
    go_loopw [5] (fun v5 wr => ∃ i : Nat, v5 = .int .i64 i ∧ i ≤ n ∧ Below w.heap.size w wr) (fun v5 _ => (n - intOf v5).toNat)
    case atStart => exact ⟨0, rfl, Nat.zero_le _, Below.refl _ _⟩
    case round =>
      obtain ⟨i, rfl, hi, hB⟩ := hrel
      by_cases hlt : i < n
      · have hil : i < a.length := by have := EA.out; omega
        go_wp2_with fail
        go_loopw [6] (fun v6 wq => ∃ k : Nat, v6 = .int .i64 k ∧ k ≤ m ∧ Below w.heap.size w wq) (fun v6 _ => (m - intOf v6).toNat)
        case atStart => exact ⟨0, rfl, Nat.zero_le _, hB⟩
        case round =>
          obtain ⟨k, rfl, hk, hBq⟩ := hrel
          by_cases hlk : k < m
          · have hkl : k < b.length := by have := EB.out; omega
            obtain ⟨ad, rfl, hca⟩ := (ha.below hBq).get1 (f := Value.string) i hil
            obtain ⟨bd, rfl, hcb⟩ := (hb.below hBq).get1 (f := Value.string) k hkl
            have x1 : (0 : Int) ≤ (i : Int) := by omega
            have x2 : (i : Int) < (n : Int) := by omega
            have x3 : (0 : Int) ≤ (k : Int) := by omega
            have x4 : (k : Int) < (m : Int) := by omega
            generalize a[i] = s at hca
            generalize b[k] = t at hcb
            obtain ⟨bb, hbb⟩ : ∃ bb, less s t = bb := ⟨_, rfl⟩
            have HL := Lib.hid hbb
            clear hbb
            cases bb with
            | true =>
              go_wp2_with fail
              go_region_held3 (fun w' => w'.cell? (ad.add i) = some (.string s) ∧ w'.cell? (bd.add k) = some (.string t)) (first | exact ⟨hca, hcb⟩ | exact ⟨cell_below hbx hca, cell_below hbx hcb⟩) (first | (go_at_call 25; refine (Less_is _ s t true HL).mono ?_; rintro e wx ⟨rfl, hbx⟩) | (go_at_call 26; refine (refLess_is _ s t true HL).mono ?_; rintro e wy ⟨rfl, rfl⟩))
              have hBx := below_call (w1 := wr.drew) ⟨hBq.os, hBq.tape, hBq.output, hBq.size, hBq.block⟩ hbx
              clear hbx hBq hca hcb
              go_wp2
              refine ⟨⟨k + 1, by go_num, by omega, hBx⟩, by simp [intOf]; omega⟩
            | false =>
              go_wp2_with fail
              go_region_held3 (fun w' => w'.cell? (ad.add i) = some (.string s) ∧ w'.cell? (bd.add k) = some (.string t)) (first | exact ⟨hca, hcb⟩ | exact ⟨cell_below hbx hca, cell_below hbx hcb⟩) (first | (go_at_call 25; refine (Less_is _ s t false HL).mono ?_; rintro e wx ⟨rfl, hbx⟩) | (go_at_call 26; refine (refLess_is _ s t false HL).mono ?_; rintro e wy ⟨rfl, rfl⟩))
              have hBx := below_call (w1 := wr.drew) ⟨hBq.os, hBq.tape, hBq.output, hBq.size, hBq.block⟩ hbx
              clear hbx hBq hca hcb
              go_wp2
              refine ⟨⟨k + 1, by go_num, by omega, hBx⟩, by simp [intOf]; omega⟩
          · go_wp2
            refine ⟨⟨i + 1, by go_num, by omega, hBq⟩, by simp [intOf]; omega⟩
      · go_wp2_with fail
        refine (Merge_calls n c m d A B a b _ (ha.below hB) (hb.below hB) (by omega) (by omega)).mono ?_
        rintro e w1 ⟨v, rfl, hv, b1⟩
        replace b1 := below_call hB b1
        clear hB
        obtain ⟨A1, c1, rfl, _⟩ := id hv
        go_wp2_with fail
        refine (refMerge_calls n c m d A B a b _ (ha.below b1) (hb.below b1) (by omega) (by omega)).mono ?_
        rintro e w2 ⟨v, rfl, hu, b2⟩
        replace hv := hv.below b2
        replace b2 := below_call b1 b2
        clear b1
        obtain ⟨A2, c2, rfl, _⟩ := id hu
        go_wp2_with fail
        refine (re_ (refSame_calls _ _ _ _ _ _ _ _ _ hv hu) (ret_bool (decide_eq_true rfl))).mono ?_
        rintro e w3 ⟨rfl, b3⟩
        replace b3 := below_call b2 b3
        clear b2
        go_wp2_with fail
        refine (live03 _).mono ?_
        rintro e w4 ⟨rfl, b4⟩
        replace b4 := below_call b3 b4
        clear b3
        go_wp2
        go_ret
        exact ⟨rfl, b4⟩
end Go.Proofs.Ytobhlcogopcbdaa
