/-
Contracts: a session dropped, by the program and by the document.
-/
import Derived.Test.YtcopiimflloooaaSesI
set_option linter.unusedVariables false
set_option linter.unusedSimpArgs false
namespace Go.Proofs.Ytcopiimflloooaa
open Go.RowKit
open Sp
set_option maxHeartbeats 16000000 in
set_option maxRecDepth 100000 in
theorem Drop9_calls (n c : Nat) (A : Option Addr) (l : List Se) (u : ByteArray) (i_ : Int) (w : World) (hl : Row enSe 6 w (.slice A n c) l) (hz : SzSe l) :
    Calls Try.prog 27 #[.slice A n c, .string u, .int .i64 i_] w fun e w' => ∃ v, e = .returned (.tuple #[v, .int .i64 (dropSe l (u, i_)).2]) ∧ Row enSe 6 w' v (dropSe l (u, i_)).1 ∧ Below w.heap.size w w' := by
  have EA := Lib.hid hl.len_eq
  obtain ⟨r, er, hr⟩ : ∃ r er, dropSe l (u, i_) = (r, er) := ⟨_, _, rfl⟩
  rw [hr]
  have HR := Lib.hid hr
  clear hr
  obtain ⟨m, hm⟩ : ∃ m, maySe l = m := ⟨_, rfl⟩
  have HM := Lib.hid hm
  have HC := re_ (May9_calls n c A l _ hl hz) (ret_bool HM.out)
  cases m with
  | false =>
    have HF : Hid (r = l ∧ er = 1) := by
      have := HR.out
      rw [dropSe_no hm] at this
      injection this with h1 h2
      exact ⟨h1.symm, h2.symm⟩
    clear hm
    go_enter Try.func27, Try.ntmps27
    go_wp2_with fail
    refine HC.mono ?_
    rintro e w1 ⟨rfl, b1⟩
    go_wp2
    go_ret2
    rw [HF.out.1, HF.out.2]
    exact ⟨_, rfl, hl.below b1, b1⟩
  | true =>
  have h32 := ((maySe_iff l).1 hm).1
  have hn32 : n ≤ 32 := by have := EA.out; omega
  obtain ⟨ix, hix⟩ : ∃ ix, idxSe l (u, i_) = ix := ⟨_, rfl⟩
  cases ix with
  | none =>
    have HF : Hid (r = l ∧ er = 6) := by
      have := HR.out
      rw [dropSe_none hm hix] at this
      injection this with h1 h2
      exact ⟨h1.symm, h2.symm⟩
    have HIX : Hid (idxI (idxSe l (u, i_)) = -1) := by show _ = _; rw [hix]; rfl
    clear hm hix h32
    go_enter Try.func27, Try.ntmps27
    go_wp2_with fail
    refine HC.mono ?_
    rintro e w1 ⟨rfl, b1⟩
    go_wp2_with fail
    refine (re_ (find_calls n c A l u i_ _ (hl.below b1)) (by rw [HIX.out, decide_eq_false (by decide)])).mono ?_
    rintro e w2 ⟨rfl, b2⟩
    have B2 := below_call b1 b2
    clear b1 b2
    go_wp2
    go_ret2
    rw [HF.out.1, HF.out.2]
    exact ⟨_, rfl, hl.below B2, B2⟩
  | some i =>
    obtain ⟨hil, -⟩ := idxSe_some hix
    have HF : Hid (r = l.take i ++ l.drop (i + 1) ∧ er = 0) := by
      have := HR.out
      rw [dropSe_at hm hix] at this
      injection this with h1 h2
      exact ⟨h1.symm, h2.symm⟩
    have HIX : Hid (idxI (idxSe l (u, i_)) = (i : Int)) := by show _ = _; rw [hix]; rfl
    have x1 : (0 : Int) ≤ (i : Int) := by omega
    have x2 : (i : Int) < (n : Int) := by have := EA.out; omega
    have HIL : Hid (i < l.length ∧ l.length ≤ 100000) := ⟨hil, by omega⟩
    clear hm hix h32 hil
    go_enter Try.func27, Try.ntmps27
    go_wp2_with fail
    refine HC.mono ?_
    rintro e w1 ⟨rfl, b1⟩
    go_wp2_with fail
    refine (re_ (find_calls n c A l u i_ _ (hl.below b1)) (by rw [HIX.out, decide_eq_true x1])).mono ?_
    rintro e w2 ⟨rfl, b2⟩
    have B2 := below_call b1 b2
    clear b1 b2
    go_wp2_with fail
    refine (cloneSe_calls n c A l _ (hl.below B2) (by omega)).mono ?_
    rintro e w3 ⟨v3, rfl, hO3, b3⟩
    have B3 := below_call B2 b3
    replace hO3 := hO3.lower (base' := w.heap.size) B2.size
    clear b3 B2
    go_wp2_with fail
    with_reducible refine (deleteSe_calls w.heap.size i v3 l w _ hO3 HIL.out.2 HIL.out.1 B3 B3.size).mono ?_
    rintro e w4 ⟨v4, rfl, hO4, hB4⟩
    go_wp2
    go_ret2
    rw [HF.out.1, HF.out.2]
    exact ⟨_, rfl, hO4.row, hB4⟩
set_option maxHeartbeats 16000000 in
set_option maxRecDepth 100000 in
theorem refDrop9_calls (n c : Nat) (A : Option Addr) (l : List Se) (u : ByteArray) (i_ : Int) (w : World) (hl : Row enSe 6 w (.slice A n c) l) (hz : SzSe l) :
    Calls Try.prog 28 #[.slice A n c, .string u, .int .i64 i_] w fun e w' => ∃ v, e = .returned (.tuple #[v, .int .i64 (dropSe l (u, i_)).2]) ∧ Row enSe 6 w' v (dropSe l (u, i_)).1 ∧ Below w.heap.size w w' := by
  have EA := Lib.hid hl.len_eq
  obtain ⟨r, er, hr⟩ : ∃ r er, dropSe l (u, i_) = (r, er) := ⟨_, _, rfl⟩
  rw [hr]
  have HR := Lib.hid hr
  clear hr
  obtain ⟨m, hm⟩ : ∃ m, maySe l = m := ⟨_, rfl⟩
  have HM := Lib.hid hm
  have HC := re_ (refMay9_calls n c A l _ hl hz) (ret_bool HM.out)
  cases m with
  | false =>
    have HF : Hid (r = l ∧ er = 1) := by
      have := HR.out
      rw [dropSe_no hm] at this
      injection this with h1 h2
      exact ⟨h1.symm, h2.symm⟩
    clear hm
    go_enter Try.func28, Try.ntmps28
    go_wp2_with fail
    refine HC.mono ?_
    rintro e w1 ⟨rfl, b1⟩
    go_wp2
    go_ret2
    rw [HF.out.1, HF.out.2]
    exact ⟨_, rfl, hl.below b1, b1⟩
  | true =>
  have h32 := ((maySe_iff l).1 hm).1
  have hn32 : n ≤ 32 := by have := EA.out; omega
  obtain ⟨ix, hix⟩ : ∃ ix, idxSe l (u, i_) = ix := ⟨_, rfl⟩
  cases ix with
  | none =>
    have HF : Hid (r = l ∧ er = 6) := by
      have := HR.out
      rw [dropSe_none hm hix] at this
      injection this with h1 h2
      exact ⟨h1.symm, h2.symm⟩
    have HIX : Hid (idxI (idxSe l (u, i_)) = -1) := by show _ = _; rw [hix]; rfl
    clear hm hix h32
    go_enter Try.func28, Try.ntmps28
    go_wp2_with fail
    refine HC.mono ?_
    rintro e w1 ⟨rfl, b1⟩
    go_wp2_with fail
    refine (re_ (place_calls n c A l u i_ _ (hl.below b1)) (by rw [HIX.out])).mono ?_
    rintro e w2 ⟨rfl, b2⟩
    have B2 := below_call b1 b2
    clear b1 b2
    go_wp2
    go_ret2
    rw [HF.out.1, HF.out.2]
    exact ⟨_, rfl, hl.below B2, B2⟩
  | some i =>
    obtain ⟨hil, -⟩ := idxSe_some hix
    have HF : Hid (r = l.take i ++ l.drop (i + 1) ∧ er = 0) := by
      have := HR.out
      rw [dropSe_at hm hix] at this
      injection this with h1 h2
      exact ⟨h1.symm, h2.symm⟩
    have HIX : Hid (idxI (idxSe l (u, i_)) = (i : Int)) := by show _ = _; rw [hix]; rfl
    have x1 : (0 : Int) ≤ (i : Int) := by omega
    have x2 : (i : Int) < (n : Int) := by have := EA.out; omega
    have hnc : n ≤ c := by obtain ⟨A', c', he, h1, _⟩ := hl; injection he with _ _ e3; subst e3; have := EA.out; omega
    obtain ⟨ad, rfl, -⟩ := hl.get enSe_len i hil
    have hT := hl.take enSe_len i (by omega)
    have hDr := hl.drop enSe_len (i + 1) (by omega)
    have x3 : (n : Int) ≤ (c : Int) := by omega
    have x4 : (i : Int) + 1 ≤ (n : Int) := by omega
    have x5 : IntKind.i64.wrap ((i : Int) + 1) = (i : Int) + 1 := by rw [IntKind.wrap_i64]; omega
    have x6 : (0 : Int) ≤ (i : Int) + 1 := by omega
    have x7 : ((i : Int) + 1).toNat = i + 1 := by omega
    have x8 : i + 1 ≤ n := by omega
    have x9 : i ≤ n := by omega
    have x10 : i ≤ c := by omega
    have HZ1 : Hid (([] : List Se).length + (l.take i).length ≤ 2000000 ∧ (([] : List Se) ++ l.take i).length + (l.drop (i + 1)).length ≤ 2000000) := by
      constructor <;> simp only [List.length_append, List.length_take, List.length_drop, List.length_nil] <;> omega
    clear hm hix h32 hil
    have hen : ∀ W : World, Own enSe 6 34 (W.alloc (.cells #[] 34)) W.heap.size (.slice (some ⟨W.heap.size, 0, none⟩) 0 0) [] := fun W => Own.lit enSe_len W [] #[] 0 rfl rfl (Nat.le_refl _) (by omega)
    have HEN := Lib.hid hen
    clear hen
    by_cases hce : c = i + 1
    · have hn1 : n = i + 1 := by omega
      rw [if_pos hce] at hDr
      have hdr0 : Row enSe 6 w (.slice (some ad) 0 0) (l.drop (i + 1)) := by
        rw [show n - (i + 1) = 0 by omega, show c - (i + 1) = 0 by omega] at hDr; exact hDr
      subst hce
      have HDR := Lib.hid hdr0
      have HTT := Lib.hid hT
      have HN1 := Lib.hid hn1
      clear hdr0 hDr hT hn1
      have y1 : n = i + 1 := HN1.out
      subst y1
      clear x8 x9 x10 x4 hnc x3
      go_enter Try.func28, Try.ntmps28
      go_wp2_with fail
      refine HC.mono ?_
      rintro e w1 ⟨rfl, b1⟩
      go_wp2_with fail
      refine (re_ (place_calls _ _ _ l u i_ _ (hl.below b1)) (by rw [HIX.out])).mono ?_
      rintro e w2 ⟨rfl, b2⟩
      have B2 := below_call b1 b2
      have O2 := (HEN.out w2).lower (base' := w.heap.size) B2.size
      have B3 := below_alloc0 B2 (.cells #[] 34)
      clear b1 b2
      go_wp2_with (first | (at_builtin; refine Own.appendRow (w0 := w) w.heap.size rfl (.tmp 21) (.tmp 24) 22 34 zvSe 6 64 rfl Try.underlying22 infoSe rfl (by decide) (.slice (some ⟨w2.heap.size, 0, none⟩) 0 0) (.slice (some ad) i (i + 1)) [] (l.take i) rfl rfl enSe_one O2 (HTT.out.below B3) B3 B3.size (by have := HZ1.out.1; omega) (by have := HZ1.out.1; omega) ?_; intro v4 w4 hO4 hB4 _ _) | (at_builtin; refine Own.appendRow (w0 := w) w.heap.size rfl (.tmp 26) (.tmp 30) 22 34 zvSe 6 64 rfl Try.underlying22 infoSe rfl (by decide) v4 (.slice (some ad) 0 0) ([] ++ l.take i) (l.drop (i + 1)) rfl rfl enSe_one hO4 (HDR.out.below hB4) hB4 hB4.size (by have := HZ1.out.2; omega) (by have := HZ1.out.2; omega) ?_; intro v5 w5 hO5 hB5 _ _))
      go_ret2
      rw [HF.out.1, HF.out.2]
      exact ⟨_, rfl, hO5.row, hB5⟩
    · rw [if_neg hce] at hDr
      have hdr0 : Row enSe 6 w (.slice (some (ad.add ((i + 1) * 6))) (n - (i + 1)) (c - (i + 1))) (l.drop (i + 1)) := hDr
      have HDR := Lib.hid hdr0
      have HTT := Lib.hid hT
      clear hdr0 hDr hT
      go_enter Try.func28, Try.ntmps28
      go_wp2_with fail
      refine HC.mono ?_
      rintro e w1 ⟨rfl, b1⟩
      go_wp2_with fail
      refine (re_ (place_calls n c _ l u i_ _ (hl.below b1)) (by rw [HIX.out])).mono ?_
      rintro e w2 ⟨rfl, b2⟩
      have B2 := below_call b1 b2
      have O2 := (HEN.out w2).lower (base' := w.heap.size) B2.size
      have B3 := below_alloc0 B2 (.cells #[] 34)
      clear b1 b2
      go_wp2_with (first | (at_builtin; refine Own.appendRow (w0 := w) w.heap.size rfl (.tmp 21) (.tmp 24) 22 34 zvSe 6 64 rfl Try.underlying22 infoSe rfl (by decide) (.slice (some ⟨w2.heap.size, 0, none⟩) 0 0) (.slice (some ad) i c) [] (l.take i) rfl rfl enSe_one O2 (HTT.out.below B3) B3 B3.size (by have := HZ1.out.1; omega) (by have := HZ1.out.1; omega) ?_; intro v4 w4 hO4 hB4 _ _) | (at_builtin; refine Own.appendRow (w0 := w) w.heap.size rfl (.tmp 26) (.tmp 30) 22 34 zvSe 6 64 rfl Try.underlying22 infoSe rfl (by decide) v4 (.slice (some (ad.add ((i + 1) * 6))) (n - (i + 1)) (c - (i + 1))) ([] ++ l.take i) (l.drop (i + 1)) rfl rfl enSe_one hO4 (HDR.out.below hB4) hB4 hB4.size (by have := HZ1.out.2; omega) (by have := HZ1.out.2; omega) ?_; intro v5 w5 hO5 hB5 _ _))
      go_ret2
      rw [HF.out.1, HF.out.2]
      exact ⟨_, rfl, hO5.row, hB5⟩
end Go.Proofs.Ytcopiimflloooaa
