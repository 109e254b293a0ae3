/-
Contracts: lists of names, of the reference: two lists as one, alike, few.
-/
import Derived.Test.YtpmafghknafhaaaRefList
namespace Go.Proofs.Ytpmafghknafhaaa
open Go.RowKit Sp

def few (l : List ByteArray) (most bytes : Int) : Bool := decide ((l.length : Int) ≤ most) && l.all fun s => decide ((s.size : Int) ≤ bytes)

theorem take_eq_succ (a b : List ByteArray) (i : Nat) (ha : i < a.length) (hb : i < b.length) (h : a.take i = b.take i) (he : a[i] = b[i]) : a.take (i + 1) = b.take (i + 1) := by
  rw [List.take_succ_eq_append_getElem ha, List.take_succ_eq_append_getElem hb, h, he]

set_option maxHeartbeats 1000000 in
set_option maxRecDepth 100000 in
theorem refSame_calls (n c m d : Nat) (A B : Option Addr) (a b : List ByteArray) (w : World) (ha : Row enS 1 w (.slice A n c) a) (hb : Row enS 1 w (.slice B m d) b) :
    Calls Try.prog 16 #[.slice A n c, .slice B m d] w fun e w' => e = .returned (.bool (decide (a = b))) ∧ Below w.heap.size w w' := by
  have hn := ha.len
  have ea := ha.len_eq
  have eb := hb.len_eq
  have hn2 : n ≤ 9223372036854775807 := by omega
  have EA := Lib.hid ea
  have EB := Lib.hid eb
  clear ea eb hn
  by_cases hm : n = m
  · subst hm
    go_enter Try.func16, Try.ntmps16
    go_wp2
    go_loopw [5] (fun v5 wr => ∃ i q : Nat, v5 = .int .i64 i ∧ i ≤ n ∧ wr = w.drewN q ∧ Hid (a.take i = b.take i)) (fun v5 _ => (n - intOf v5).toNat)
    case atStart => exact ⟨0, 0, rfl, Nat.zero_le _, rfl, by show _ = _; simp⟩
    case round =>
      obtain ⟨i, q, rfl, hi, rfl, HT⟩ := hrel
      by_cases hlt : i < n
      · have hka : i < a.length := by have := EA.out; omega
        have hkb : i < b.length := by have := EB.out; omega
        obtain ⟨ad, rfl, hca⟩ := ha.get1 (f := Value.string) i hka
        obtain ⟨bd, rfl, hcb⟩ := hb.get1 (f := Value.string) i hkb
        by_cases hx : a[i] = b[i]
        · have HT2 : Hid (a.take (i + 1) = b.take (i + 1)) := take_eq_succ a b i hka hkb HT.out hx
          rw [← hx] at hcb
          have hne : (!(a[i].toList == a[i].toList)) = false := by simp
          clear hx
          go_wp2
          go_quiet (fail)
          go_wp2
          exact ⟨⟨i + 1, _, by go_num, by omega, rfl, HT2⟩, by simp [intOf]; omega⟩
        · have HV : Hid (decide (a = b) = false) := by
            refine decide_eq_false fun e => hx ?_
            subst e
            rfl
          have hne : (!(a[i].toList == b[i].toList)) = true := by
            simp only [Bool.not_eq_true', beq_eq_false_iff_ne]
            exact fun e => hx (toList_inj'.1 e)
          clear hx
          go_wp2
          go_quiet (fail)
          go_wp2
          go_ret
          exact ⟨ret_bool HV.out.symm, by repeat (first | exact Below.refl _ _ | apply below_drewN)⟩
      · have HV : Hid (decide (a = b) = true) := by
          refine decide_eq_true ?_
          have := HT.out
          rw [List.take_of_length_le (by have := EA.out; omega), List.take_of_length_le (by have := EB.out; omega)] at this
          exact this
        go_wp2
        go_ret
        exact ⟨ret_bool HV.out.symm, by repeat (first | exact Below.refl _ _ | apply below_drewN)⟩
  · have HV : Hid (decide (a = b) = false) := by
      refine decide_eq_false fun e => hm ?_
      have h1 := EA.out
      have h2 := EB.out
      rw [e] at h1
      omega
    have hb1 : ((n : Int) != m) = true := by simp; omega
    have hb2 : (n != m) = true := by simp; omega
    have hb3 : (!(n == m)) = true := by simp; omega
    clear hm
    go_enter Try.func16, Try.ntmps16
    go_wp2
    go_ret
    exact ⟨ret_bool HV.out.symm, Below.refl _ _⟩

set_option maxHeartbeats 1000000 in
set_option maxRecDepth 100000 in
theorem refMerge_calls (n c m d : Nat) (A B : Option Addr) (a b : List ByteArray) (w : World) (ha : Row enS 1 w (.slice A n c) a) (hb : Row enS 1 w (.slice B m d) b) (hn : n ≤ 262144) (hm : m ≤ 262144) :
    Calls Try.prog 29 #[.slice A n c, .slice B m d] w fun e w' => ∃ v, e = .returned v ∧ Row enS 1 w' v (mergeS a b) ∧ Below w.heap.size w w' := by
  have EA := Lib.hid ha.len_eq
  have EB := Lib.hid hb.len_eq
  go_enter Try.func29, Try.ntmps29
  go_wp2
  go_loopw [5, 6] (fun v5 v6 wr => ∃ i : Nat, v6 = .int .i64 i ∧ i ≤ n ∧ Row enS 1 wr v5 ((a.take i).foldl insS []) ∧ Below w.heap.size w wr) (fun _ v6 _ => (n - intOf v6).toNat)
  case atStart => exact ⟨0, rfl, Nat.zero_le _, Row.nil _ _ _, Below.refl _ _⟩
  case round =>
    obtain ⟨i, rfl, hi, hR, hB⟩ := hrel
    have hlen := fold_len (a.take i) []
    have hti : (a.take i).length ≤ i := List.length_take_le _ _
    by_cases hlt : i < n
    · have hk' : i < a.length := by have := EA.out; omega
      obtain ⟨ad, rfl, hcell0⟩ := ha.get1 (f := Value.string) i hk'
      have hcell := cell_below hB hcell0
      clear hcell0
      obtain ⟨A5, c5, rfl, _⟩ := id hR
      have hl5 := hR.len_eq
      obtain ⟨n5, hn5⟩ : ∃ n5, n5 = ((a.take i).foldl insS []).length := ⟨_, rfl⟩
      rw [← hn5] at hR hlen ⊢
      clear hl5 hn5
      go_wp2_with (go_at_call 61; refine (refPutL_calls _ _ _ _ _ _ hR (by simp at hlen; omega)).mono ?_)
      rintro e w1 ⟨v1, rfl, hR1, hB1⟩
      go_wp2
      go_roundw
      case rel =>
        refine ⟨i + 1, by go_num, by omega, ?_, below_call hB hB1⟩
        rw [List.take_succ_eq_append_getElem hk', List.foldl_append]
        exact hR1
      case measure => simp [intOf]; omega
    · have hfull : a.take i = a := List.take_of_length_le (by have := EA.out; omega)
      rw [hfull] at hR hlen
      clear hfull
      go_wp2
      have HF : Hid True := trivial
      obtain ⟨v50, hv50⟩ : ∃ v, v = u5 := ⟨_, rfl⟩
      rw [← hv50] at hR ⊢
      clear hv50
      obtain ⟨wo, hwo⟩ : ∃ wo : World, wo = wr := ⟨_, rfl⟩
      rw [← hwo] at hR hB ⊢
      clear hwo
      have hR0 := hR
      have hB0 := hB
      clear hR hB
      go_loopw [5, 7] (fun v5 v7 wr => ∃ k : Nat, v7 = .int .i64 k ∧ k ≤ m ∧ Row enS 1 wr v5 ((b.take k).foldl insS (a.foldl insS [])) ∧ Below w.heap.size w wr) (fun _ v7 _ => (m - intOf v7).toNat)
      case atStart => exact ⟨0, rfl, Nat.zero_le _, hR0, hB0⟩
      case round =>
        obtain ⟨k, rfl, hk, hR, hB⟩ := hrel
        have hlen2 := fold_len (b.take k) (a.foldl insS [])
        have htk : (b.take k).length ≤ k := List.length_take_le _ _
        have hal : a.length ≤ n := by have := EA.out; omega
        have hlen3 := fold_len a []
        by_cases hlt2 : k < m
        · have hk' : k < b.length := by have := EB.out; omega
          obtain ⟨ad, rfl, hcell0⟩ := hb.get1 (f := Value.string) k hk'
          have hcell := cell_below hB hcell0
          clear hcell0
          obtain ⟨A5, c5, rfl, _⟩ := id hR
          obtain ⟨n5, hn5⟩ : ∃ n5, n5 = ((b.take k).foldl insS (a.foldl insS [])).length := ⟨_, rfl⟩
          rw [← hn5] at hR hlen2 ⊢
          clear hn5
          have hn5b : n5 ≤ 1048576 := by simp at hlen3; omega
          clear hlen2 hlen3 hlen
          go_wp2_with (go_at_call 61; refine (refPutL_calls _ _ _ _ _ _ hR hn5b).mono ?_)
          rintro e w1 ⟨v1, rfl, hR1, hB1⟩
          go_wp2
          go_roundw
          case rel =>
            refine ⟨k + 1, by go_num, by omega, ?_, below_call hB hB1⟩
            rw [List.take_succ_eq_append_getElem hk', List.foldl_append]
            exact hR1
          case measure => simp [intOf]; omega
        · have hfull : b.take k = b := List.take_of_length_le (by have := EB.out; omega)
          rw [hfull, ← List.foldl_append] at hR
          clear hfull
          go_wp2
          go_ret
          exact ⟨_, rfl, hR, hB⟩
end Go.Proofs.Ytpmafghknafhaaa
