import Derived.Deep.QuietTactic
import Derived.BigQuiet
import Derived.Test.YtbpfcjdjhponaaaGreatProg
import Derived.Test.YtbpfcjdjhponaaaGreatPViewRows05
set_option linter.unusedVariables false
set_option linter.unusedSimpArgs false
set_option linter.unusedSectionVars false
namespace Go.Proofs.YtbpfcjdjhponaaaGreat
open Go.RowKit
open Sp
namespace Sp
theorem atSe_is {l : List Se} {s : Se} {i : Nat} (hi : i ≤ l.length) (h : ∀ j (h : j < l.length), j < i → ltSe (keySe l[j]) (keySe s) = true) (he : ∀ h : i < l.length, ltSe (keySe l[i]) (keySe s) = false) : atSe l s = i := by
  unfold atSe
  have h1 : l = l.take i ++ l.drop i := (List.take_append_drop i l).symm
  conv => lhs; arg 1; arg 2; rw [h1]
  rw [List.takeWhile_append_of_pos]
  · rw [List.length_append, List.length_take]
    have : (l.drop i).takeWhile (fun x => ltSe (keySe x) (keySe s)) = [] := by
      rcases Nat.lt_or_ge i l.length with h2 | h2
      · rw [← List.getElem_cons_drop h2, List.takeWhile_cons, if_neg (by rw [he h2]; decide)]
      · rw [List.drop_eq_nil_of_le h2]; rfl
    rw [this, List.length_nil]
    omega
  · intro x hx
    obtain ⟨j, hj, rfl⟩ := List.getElem_of_mem hx
    rw [List.length_take] at hj
    rw [List.getElem_take]
    exact h j (by omega) (by omega)
theorem putSe_no {l : List Se} {s : Se} (h : maySe l = false ∨ oneS s = false) : putSe l s = (l, 1) := by
  unfold putSe
  rw [if_pos (by rcases h with h | h <;> rw [h] <;> simp)]
theorem putSe_at {l : List Se} {s : Se} {i : Nat} (h1 : maySe l = true) (h2 : oneS s = true) (h : idxSe l (keySe s) = some i) : putSe l s = (l.set i s, 0) := by
  unfold putSe
  rw [if_neg (by rw [h1, h2]; decide), h]
theorem putSe_full {l : List Se} {s : Se} (h1 : maySe l = true) (h2 : oneS s = true) (h : idxSe l (keySe s) = none) (hl : l.length = 32) : putSe l s = (l, 5) := by
  unfold putSe
  rw [if_neg (by rw [h1, h2]; decide), h]
  simp only
  rw [if_pos hl]
theorem putSe_new {l : List Se} {s : Se} (h1 : maySe l = true) (h2 : oneS s = true) (h : idxSe l (keySe s) = none) (hl : l.length ≠ 32) : putSe l s = (l.take (atSe l s) ++ s :: l.drop (atSe l s), 0) := by
  unfold putSe
  rw [if_neg (by rw [h1, h2]; decide), h]
  simp only
  rw [if_neg hl]
theorem dropSe_no {l : List Se} {k : SeK} (h : maySe l = false) : dropSe l k = (l, 1) := by unfold dropSe; rw [if_pos h]
theorem dropSe_at {l : List Se} {k : SeK} {i : Nat} (h1 : maySe l = true) (h : idxSe l k = some i) : dropSe l k = (l.take i ++ l.drop (i + 1), 0) := by
  unfold dropSe
  rw [if_neg (by rw [h1]; decide), h]
theorem dropSe_none {l : List Se} {k : SeK} (h1 : maySe l = true) (h : idxSe l k = none) : dropSe l k = (l, 6) := by
  unfold dropSe
  rw [if_neg (by rw [h1]; decide), h]
end Sp
theorem Own.lt {α : Type} {enc : α → List Value} {k : Nat} {e : TypeId} {w : World} {base : Nat} {v : Value} {xs : List α} (h : Own enc k e w base v xs) (g : Nat) (hg : v.ownBlock = some g) : g < w.heap.size := (World.ownsRow.lt h g hg).2
theorem Own.at0 {α : Type} {enc : α → List Value} {k : Nat} {e : TypeId} {w : World} {base : Nat} {A : Option Addr} {n c : Nat} {xs : List α} (h : Own enc k e w base (.slice A n c) xs) (hp : 0 < xs.length) : ∃ b, A = some ⟨b, 0, none⟩ ∧ base ≤ b ∧ b < w.heap.size := by
  rcases h.2 with ⟨_, h0⟩ | ⟨b, c', cur, he, hb, hc, _⟩
  · omega
  · injection he with e1
    exact ⟨b, e1, hb, (Array.getElem?_eq_some_iff.1 hc).1⟩
end Go.Proofs.YtbpfcjdjhponaaaGreat
namespace Go.Proofs.YtbpfcjdjhponaaaGreat
open Go.RowKit
open Sp
set_option maxHeartbeats 16000000 in
set_option maxRecDepth 100000 in
theorem refDrop9_calls (n c : Nat) (A : Option Addr) (l : List Se) (u : ByteArray) (i_ : Int) (w : World) (hl : Row enSe 6 w (.slice A n c) l) (hz : SzSe l) :
    Calls Tryz.prog 114 #[.slice A n c, .string u, .int .i64 i_] w fun e w' => ∃ v, e = .returned (.tuple #[v, .int .i64 (dropSe l (u, i_)).2]) ∧ Row enSe 6 w' v (dropSe l (u, i_)).1 ∧ Below w.heap.size w w' ∧ (v = .slice A n c ∨ ∀ g, v.ownBlock = some g → w.heap.size ≤ g) := by
  have EA := Lib.hid hl.len_eq
  obtain ⟨r, er, hr⟩ : ∃ r er, dropSe l (u, i_) = (r, er) := ⟨_, _, rfl⟩
  rw [hr]
  have HR := Lib.hid hr
  clear hr
  obtain ⟨m, hm⟩ : ∃ m, maySe l = m := ⟨_, rfl⟩
  have HM := Lib.hid hm
  have HC := re_ (refMay9_calls n c A l _ hl hz) (ret_bool HM.out)
  cases m with
  | false =>
    have HF : Hid (r = l ∧ er = 1) := by
      have := HR.out
      rw [dropSe_no hm] at this
      injection this with h1 h2
      exact ⟨h1.symm, h2.symm⟩
    clear hm
    go_enter Tryz.func114, Tryz.ntmps114
    go_wp2_with fail
    refine HC.mono ?_
    rintro e w1 ⟨rfl, b1⟩
    go_wp2
    go_ret2
    rw [HF.out.1, HF.out.2]
    exact ⟨_, rfl, hl.below b1, b1, .inl rfl⟩
  | true =>
  have h32 := ((maySe_iff l).1 hm).1
  have hn32 : n ≤ 32 := by have := EA.out; omega
  obtain ⟨ix, hix⟩ : ∃ ix, idxSe l (u, i_) = ix := ⟨_, rfl⟩
  cases ix with
  | none =>
    have HF : Hid (r = l ∧ er = 6) := by
      have := HR.out
      rw [dropSe_none hm hix] at this
      injection this with h1 h2
      exact ⟨h1.symm, h2.symm⟩
    have HIX : Hid (idxI (idxSe l (u, i_)) = -1) := by show _ = _; rw [hix]; rfl
    clear hm hix h32
    go_enter Tryz.func114, Tryz.ntmps114
    go_wp2_with fail
    refine HC.mono ?_
    rintro e w1 ⟨rfl, b1⟩
    go_wp2_with fail
    refine (re_ (place_calls n c A l u i_ _ (hl.below b1)) (by rw [HIX.out])).mono ?_
    rintro e w2 ⟨rfl, b2⟩
    have B2 := below_call b1 b2
    clear b1 b2
    go_wp2
    go_ret2
    rw [HF.out.1, HF.out.2]
    exact ⟨_, rfl, hl.below B2, B2, .inl rfl⟩
  | some i =>
    obtain ⟨hil, -⟩ := idxSe_some hix
    have HF : Hid (r = l.take i ++ l.drop (i + 1) ∧ er = 0) := by
      have := HR.out
      rw [dropSe_at hm hix] at this
      injection this with h1 h2
      exact ⟨h1.symm, h2.symm⟩
    have HIX : Hid (idxI (idxSe l (u, i_)) = (i : Int)) := by show _ = _; rw [hix]; rfl
    have x1 : (0 : Int) ≤ (i : Int) := by omega
    have x2 : (i : Int) < (n : Int) := by have := EA.out; omega
    have hnc : n ≤ c := by obtain ⟨A', c', he, h1, _⟩ := hl; injection he with _ _ e3; subst e3; have := EA.out; omega
    obtain ⟨ad, rfl, -⟩ := hl.get enSe_len i hil
    have hT := hl.take enSe_len i (by omega)
    have hDr := hl.drop enSe_len (i + 1) (by omega)
    have x3 : (n : Int) ≤ (c : Int) := by omega
    have x4 : (i : Int) + 1 ≤ (n : Int) := by omega
    have x5 : IntKind.i64.wrap ((i : Int) + 1) = (i : Int) + 1 := by rw [IntKind.wrap_i64]; omega
    have x6 : (0 : Int) ≤ (i : Int) + 1 := by omega
    have x7 : ((i : Int) + 1).toNat = i + 1 := by omega
    have x8 : i + 1 ≤ n := by omega
    have x9 : i ≤ n := by omega
    have x10 : i ≤ c := by omega
    have HZ1 : Hid (([] : List Se).length + (l.take i).length ≤ 2000000 ∧ (([] : List Se) ++ l.take i).length + (l.drop (i + 1)).length ≤ 2000000) := by
      constructor <;> simp only [List.length_append, List.length_take, List.length_drop, List.length_nil] <;> omega
    clear hm hix h32 hil
    have hen : ∀ W : World, Own enSe 6 99 (W.alloc (.cells #[] 99)) W.heap.size (.slice (some ⟨W.heap.size, 0, none⟩) 0 0) [] := fun W => Own.lit enSe_len W [] #[] 0 rfl rfl (Nat.le_refl _) (by omega)
    have HEN := Lib.hid hen
    clear hen
    by_cases hce : c = i + 1
    · have hn1 : n = i + 1 := by omega
      rw [if_pos hce] at hDr
      have hdr0 : Row enSe 6 w (.slice (some ad) 0 0) (l.drop (i + 1)) := by
        rw [show n - (i + 1) = 0 by omega, show c - (i + 1) = 0 by omega] at hDr; exact hDr
      subst hce
      have HDR := Lib.hid hdr0
      have HTT := Lib.hid hT
      have HN1 := Lib.hid hn1
      clear hdr0 hDr hT hn1
      have y1 : n = i + 1 := HN1.out
      subst y1
      clear x8 x9 x10 x4 hnc x3
      go_enter Tryz.func114, Tryz.ntmps114
      go_wp2_with fail
      refine HC.mono ?_
      rintro e w1 ⟨rfl, b1⟩
      go_wp2_with fail
      refine (re_ (place_calls _ _ _ l u i_ _ (hl.below b1)) (by rw [HIX.out])).mono ?_
      rintro e w2 ⟨rfl, b2⟩
      have B2 := below_call b1 b2
      have O2 := (HEN.out w2).lower (base' := w.heap.size) B2.size
      have B3 := below_alloc0 B2 (.cells #[] 99)
      clear b1 b2
      go_wp2_with (first | (at_builtin; refine Own.appendRow (w0 := w) w.heap.size rfl (.tmp 21) (.tmp 24) 23 99 zvSe 6 64 rfl Tryz.underlying23 infoSe rfl (by decide) (.slice (some ⟨w2.heap.size, 0, none⟩) 0 0) (.slice (some ad) i (i + 1)) [] (l.take i) rfl rfl enSe_one O2 (HTT.out.below B3) B3 B3.size (by have := HZ1.out.1; omega) (by have := HZ1.out.1; omega) ?_; intro v4 w4 hO4 hB4 _ _) | (at_builtin; refine Own.appendRow (w0 := w) w.heap.size rfl (.tmp 26) (.tmp 30) 23 99 zvSe 6 64 rfl Tryz.underlying23 infoSe rfl (by decide) v4 (.slice (some ad) 0 0) ([] ++ l.take i) (l.drop (i + 1)) rfl rfl enSe_one hO4 (HDR.out.below hB4) hB4 hB4.size (by have := HZ1.out.2; omega) (by have := HZ1.out.2; omega) ?_; intro v5 w5 hO5 hB5 _ _))
      go_ret2
      rw [HF.out.1, HF.out.2]
      exact ⟨_, rfl, hO5.row, hB5, .inr fun g hg => by first | exact hO5.base_le g hg | exact Nat.le_trans (Below.size (by assumption)) (hO5.base_le g hg) | exact Nat.le_trans hBx.size (hO5.base_le g hg)⟩
    · rw [if_neg hce] at hDr
      have hdr0 : Row enSe 6 w (.slice (some (ad.add ((i + 1) * 6))) (n - (i + 1)) (c - (i + 1))) (l.drop (i + 1)) := hDr
      have HDR := Lib.hid hdr0
      have HTT := Lib.hid hT
      clear hdr0 hDr hT
      go_enter Tryz.func114, Tryz.ntmps114
      go_wp2_with fail
      refine HC.mono ?_
      rintro e w1 ⟨rfl, b1⟩
      go_wp2_with fail
      refine (re_ (place_calls n c _ l u i_ _ (hl.below b1)) (by rw [HIX.out])).mono ?_
      rintro e w2 ⟨rfl, b2⟩
      have B2 := below_call b1 b2
      have O2 := (HEN.out w2).lower (base' := w.heap.size) B2.size
      have B3 := below_alloc0 B2 (.cells #[] 99)
      clear b1 b2
      go_wp2_with (first | (at_builtin; refine Own.appendRow (w0 := w) w.heap.size rfl (.tmp 21) (.tmp 24) 23 99 zvSe 6 64 rfl Tryz.underlying23 infoSe rfl (by decide) (.slice (some ⟨w2.heap.size, 0, none⟩) 0 0) (.slice (some ad) i c) [] (l.take i) rfl rfl enSe_one O2 (HTT.out.below B3) B3 B3.size (by have := HZ1.out.1; omega) (by have := HZ1.out.1; omega) ?_; intro v4 w4 hO4 hB4 _ _) | (at_builtin; refine Own.appendRow (w0 := w) w.heap.size rfl (.tmp 26) (.tmp 30) 23 99 zvSe 6 64 rfl Tryz.underlying23 infoSe rfl (by decide) v4 (.slice (some (ad.add ((i + 1) * 6))) (n - (i + 1)) (c - (i + 1))) ([] ++ l.take i) (l.drop (i + 1)) rfl rfl enSe_one hO4 (HDR.out.below hB4) hB4 hB4.size (by have := HZ1.out.2; omega) (by have := HZ1.out.2; omega) ?_; intro v5 w5 hO5 hB5 _ _))
      go_ret2
      rw [HF.out.1, HF.out.2]
      exact ⟨_, rfl, hO5.row, hB5, .inr fun g hg => by first | exact hO5.base_le g hg | exact Nat.le_trans (Below.size (by assumption)) (hO5.base_le g hg) | exact Nat.le_trans hBx.size (hO5.base_le g hg)⟩
end Go.Proofs.YtbpfcjdjhponaaaGreat
namespace Go.Proofs.YtbpfcjdjhponaaaGreat
open Go.RowKit
open Sp
set_option maxHeartbeats 32000000 in
set_option maxRecDepth 100000 in
theorem refPut9_calls (n c : Nat) (A : Option Addr) (l : List Se) (u : ByteArray) (i_ a p n_ : Int) (t : ByteArray) (w : World) (hl : Row enSe 6 w (.slice A n c) l) (hz : SzSe l) (hu : u.size ≤ 140737488351232) (ht : t.size ≤ 140737488351232) :
    Calls Tryz.prog 113 #[.slice A n c, ag6 u i_ a p n_ t] w fun e w' => ∃ v, e = .returned (.tuple #[v, .int .i64 (putSe l ⟨u, i_, a, p, n_, t⟩).2]) ∧ Row enSe 6 w' v (putSe l ⟨u, i_, a, p, n_, t⟩).1 ∧ Below w.heap.size w w' ∧ (v = .slice A n c ∨ ∀ g, v.ownBlock = some g → w.heap.size ≤ g) := by
  have EA := Lib.hid hl.len_eq
  obtain ⟨r, er, hr⟩ : ∃ r er, putSe l ⟨u, i_, a, p, n_, t⟩ = (r, er) := ⟨_, _, rfl⟩
  rw [hr]
  have HR := Lib.hid hr
  clear hr
  have hBx := below_box (w := w) (bxSe u i_ a p n_ t)
  have hbox := heap_alloc_new w (bxSe u i_ a p n_ t)
  obtain ⟨m, hm⟩ : ∃ m, maySe l = m := ⟨_, rfl⟩
  have HM := Lib.hid hm
  have HC := re_ (refMay9_calls n c A l _ (hl.below hBx) hz) (ret_bool HM.out)
  cases m with
  | false =>
    have HF : Hid (r = l ∧ er = 1) := by
      have := HR.out
      rw [putSe_no (.inl hm)] at this
      injection this with h1 h2
      exact ⟨h1.symm, h2.symm⟩
    clear hm
    go_enter Tryz.func113, Tryz.ntmps113
    go_wp2_with fail
    refine HC.mono ?_
    rintro e w1 ⟨rfl, b1⟩
    have B1 := below_call hBx b1
    go_wp2
    go_ret2
    rw [HF.out.1, HF.out.2]
    exact ⟨_, rfl, hl.below B1, B1, .inl rfl⟩
  | true =>
  obtain ⟨o, ho⟩ : ∃ o, oneS ⟨u, i_, a, p, n_, t⟩ = o := ⟨_, rfl⟩
  have HO := Lib.hid ho
  cases o with
  | false =>
    have HF : Hid (r = l ∧ er = 1) := by
      have := HR.out
      rw [putSe_no (.inr ho)] at this
      injection this with h1 h2
      exact ⟨h1.symm, h2.symm⟩
    clear hm ho
    go_enter Tryz.func113, Tryz.ntmps113
    go_wp2_with fail
    refine HC.mono ?_
    rintro e w1 ⟨rfl, b1⟩
    have hb1 := hcall hbox b1
    obtain ⟨s0, s1, s2, s3, s4, s5, sz⟩ := cellsSe u i_ a p n_ t hb1
    go_wp2_with fail
    refine (re_ (refOne_calls u i_ a p n_ t _ hu ht) (ret_bool HO.out)).mono ?_
    rintro e w2 ⟨rfl, b2⟩
    have D2 := below_call b1 b2
    clear b1 b2 s0 s1 s2 s3 s4 s5 sz hb1
    have B2 := below_call hBx D2
    go_wp2
    go_ret2
    rw [HF.out.1, HF.out.2]
    exact ⟨_, rfl, hl.below B2, B2, .inl rfl⟩
  | true =>
  have h32 := ((maySe_iff l).1 hm).1
  have hn32 : n ≤ 32 := by have := EA.out; omega
  obtain ⟨ix, hix⟩ : ∃ ix, idxSe l (u, i_) = ix := ⟨_, rfl⟩
  have hks : keySe ⟨u, i_, a, p, n_, t⟩ = (u, i_) := rfl
  have hen : ∀ W : World, Own enSe 6 99 (W.alloc (.cells #[] 99)) W.heap.size (.slice (some ⟨W.heap.size, 0, none⟩) 0 0) [] := fun W => Own.lit enSe_len W [] #[] 0 rfl rfl (Nat.le_refl _) (by omega)
  have HEN := Lib.hid hen
  have HZ1 : Hid (l.length ≤ 100000) := by show _ ≤ _; omega
  clear hen
  cases ix with
  | some i =>
    obtain ⟨hil, -⟩ := idxSe_some hix
    have HF : Hid (r = l.set i ⟨u, i_, a, p, n_, t⟩ ∧ er = 0) := by
      have := HR.out
      rw [putSe_at hm ho (by rw [hks]; exact hix)] at this
      injection this with h1 h2
      exact ⟨h1.symm, h2.symm⟩
    have HIX : Hid (idxI (idxSe l (u, i_)) = (i : Int)) := by show _ = _; rw [hix]; rfl
    have x1 : (0 : Int) ≤ (i : Int) := by omega
    have x2 : (i : Int) < (n : Int) := by have := EA.out; omega
    have HIL := Lib.hid hil
    clear hm ho hix hks h32 hil
    go_enter Tryz.func113, Tryz.ntmps113
    go_wp2_with fail
    refine HC.mono ?_
    rintro e w1 ⟨rfl, b1⟩
    have hb1 := hcall hbox b1
    obtain ⟨s0, s1, s2, s3, s4, s5, sz⟩ := cellsSe u i_ a p n_ t hb1
    go_wp2_with fail
    refine (re_ (refOne_calls u i_ a p n_ t _ hu ht) (ret_bool HO.out)).mono ?_
    rintro e w2 ⟨rfl, b2⟩
    have D2 := below_call b1 b2
    clear b1 b2 s0 s1 s2 s3 s4 s5 sz hb1
    obtain ⟨s0, s1, s2, s3, s4, s5, sz⟩ := cellsSe u i_ a p n_ t (hcall hbox D2)
    go_wp2_with fail
    refine (re_ (place_calls n c A l u i_ _ (hl.below (below_call hBx D2))) (by rw [HIX.out])).mono ?_
    rintro e w3 ⟨rfl, b3⟩
    have hD := below_call D2 b3
    clear b3 D2 s0 s1 s2 s3 s4 s5 sz
    have O2 := (HEN.out w3).lower (base' := (w.alloc (bxSe u i_ a p n_ t)).heap.size) hD.size
    have B3 := hD.alloc hD.size (.cells #[] 99)
    go_wp2_with (first | (at_builtin; refine Own.appendRow (w0 := (w.alloc (bxSe u i_ a p n_ t))) (w.alloc (bxSe u i_ a p n_ t)).heap.size rfl (.tmp 27) (.tmp 28) 23 99 zvSe 6 64 rfl Tryz.underlying23 infoSe rfl (by decide) (.slice (some ⟨w3.heap.size, 0, none⟩) 0 0) (.slice A n c) [] l rfl rfl enSe_one O2 (hl.below (below_call hBx B3)) B3 B3.size (by have := HZ1.out; simp only [List.length_nil]; omega) (by have := HZ1.out; simp only [List.length_nil]; omega) ?_; intro v4 w4 (hO4 : Own enSe 6 99 w4 _ v4 l) hB4 _ _; (obtain ⟨A4, c4, hv4, _⟩ := hO4.slice); (rw [← EA.out] at hv4); subst hv4; (obtain ⟨b, rfl, hbb, _⟩ := hO4.at0 (by have := HIL.out; omega)); (obtain ⟨s0, s1, s2, s3, s4, s5, sz⟩ := cellsSe u i_ a p n_ t (hcall hbox hB4))) | (with_reducible refine Own.store rfl 99 (.tmp 33) (.tmp 32) rfl szSe b n c4 i l ⟨u, i_, a, p, n_, t⟩ hO4 enSe_len (enSe_one _) HIL.out rfl (enSe ⟨u, i_, a, p, n_, t⟩) rfl rfl hB4 ?_; intro w6 hO6 hB6 hz6 ho6))
    go_ret2
    rw [HF.out.1, HF.out.2]
    exact ⟨_, rfl, hO6.row, below_call hBx hB6, .inr fun g hg => by first | exact hO6.base_le g hg | exact Nat.le_trans (Below.size (by assumption)) (hO6.base_le g hg) | exact Nat.le_trans hBx.size (hO6.base_le g hg)⟩
  | none =>
    have HIX : Hid (idxI (idxSe l (u, i_)) = -1) := by show _ = _; rw [hix]; rfl
    by_cases hfull : n = 32
    · have HF : Hid (r = l ∧ er = 5) := by
        have := HR.out
        rw [putSe_full hm ho (by rw [hks]; exact hix) (by rw [← EA.out]; exact hfull)] at this
        injection this with h1 h2
        exact ⟨h1.symm, h2.symm⟩
      have hnb : (32 : Int) ≤ (n : Int) := by omega
      clear hm ho hix hks h32 hfull
      go_enter Tryz.func113, Tryz.ntmps113
      go_wp2_with fail
      refine HC.mono ?_
      rintro e w1 ⟨rfl, b1⟩
      have hb1 := hcall hbox b1
      obtain ⟨s0, s1, s2, s3, s4, s5, sz⟩ := cellsSe u i_ a p n_ t hb1
      go_wp2_with fail
      refine (re_ (refOne_calls u i_ a p n_ t _ hu ht) (ret_bool HO.out)).mono ?_
      rintro e w2 ⟨rfl, b2⟩
      have D2 := below_call b1 b2
      clear b1 b2 s0 s1 s2 s3 s4 s5 sz hb1
      obtain ⟨s0, s1, s2, s3, s4, s5, sz⟩ := cellsSe u i_ a p n_ t (hcall hbox D2)
      go_wp2_with fail
      refine (re_ (place_calls n c A l u i_ _ (hl.below (below_call hBx D2))) (by rw [HIX.out])).mono ?_
      rintro e w3 ⟨rfl, b3⟩
      have hD := below_call D2 b3
      clear b3 D2 s0 s1 s2 s3 s4 s5 sz
      have B3 := below_call hBx hD
      go_wp2
      go_ret2
      rw [HF.out.1, HF.out.2]
      exact ⟨_, rfl, hl.below B3, B3, .inl rfl⟩
    · have HF : Hid (r = l.take (atSe l ⟨u, i_, a, p, n_, t⟩) ++ ⟨u, i_, a, p, n_, t⟩ :: l.drop (atSe l ⟨u, i_, a, p, n_, t⟩) ∧ er = 0) := by
        have := HR.out
        rw [putSe_new hm ho (by rw [hks]; exact hix) (by rw [← EA.out]; exact hfull)] at this
        injection this with h1 h2
        exact ⟨h1.symm, h2.symm⟩
      have hnb : (n : Int) < 32 := by omega
      have hcap : n ≤ c ∧ c ≤ 9223372036854775807 := by
        obtain ⟨A', c', he, h1, h2, _⟩ := hl
        injection he with e1 e2 e3
        subst e3
        simp only [maxLen] at h2
        have := EA.out
        omega
      obtain ⟨hc1, hc2⟩ := hcap
      clear hm ho hix hks h32 hfull
      go_enter Tryz.func113, Tryz.ntmps113
      go_wp2_with fail
      refine HC.mono ?_
      rintro e w1 ⟨rfl, b1⟩
      have hb1 := hcall hbox b1
      obtain ⟨s0, s1, s2, s3, s4, s5, sz⟩ := cellsSe u i_ a p n_ t hb1
      go_wp2_with fail
      refine (re_ (refOne_calls u i_ a p n_ t _ hu ht) (ret_bool HO.out)).mono ?_
      rintro e w2 ⟨rfl, b2⟩
      have D2 := below_call b1 b2
      clear b1 b2 s0 s1 s2 s3 s4 s5 sz hb1
      obtain ⟨s0, s1, s2, s3, s4, s5, sz⟩ := cellsSe u i_ a p n_ t (hcall hbox D2)
      go_wp2_with fail
      refine (re_ (place_calls n c A l u i_ _ (hl.below (below_call hBx D2))) (by rw [HIX.out])).mono ?_
      rintro e w3 ⟨rfl, b3⟩
      have hD := below_call D2 b3
      clear b3 D2 s0 s1 s2 s3 s4 s5 sz
      go_wp2_with fail
      go_loopw [8] (fun v9 wr => ∃ i : Nat, v9 = .int .i64 i ∧ i ≤ n ∧ Below (w.alloc (bxSe u i_ a p n_ t)).heap.size (w.alloc (bxSe u i_ a p n_ t)) wr ∧ Hid (∀ j (h : j < l.length), j < i → ltSe (keySe l[j]) ((u, i_) : SeK) = true)) (fun v9 _ => (n - intOf v9).toNat)
      case atStart => exact ⟨0, rfl, Nat.zero_le _, hD, fun j _ h => absurd h (by omega)⟩
      case round =>
        obtain ⟨i, rfl, hi, hB, HT⟩ := hrel
        clear hD
        by_cases hlt : i < n
        · have hil : i < l.length := by have := EA.out; omega
          obtain ⟨⟨a_, b_, c_, d_, e_, f_⟩, he⟩ : ∃ e, l[i] = e := ⟨_, rfl⟩
          obtain ⟨ad, rfl, c0, c1, c2, c3, c4, c5⟩ := rowSe (hl.below (below_call hBx hB)) i hil a_ b_ c_ d_ e_ f_ he
          obtain ⟨s0, s1, s2, s3, s4, s5, sz⟩ := cellsSe u i_ a p n_ t (hcall hbox hB)
          obtain ⟨b, hb⟩ : ∃ b, ltSe (a_, b_) (u, i_) = b := ⟨_, rfl⟩
          have HB := Lib.hid hb
          have HLT : Hid (ltSe (keySe l[i]) ((u, i_) : SeK) = b) := by show _ = _; rw [he, ← hb]; rfl
          have x1 : (0 : Int) ≤ (i : Int) := by omega
          have x2 : (i : Int) < (n : Int) := by omega
          have hD : Below (w.alloc (bxSe u i_ a p n_ t)).heap.size (w.alloc (bxSe u i_ a p n_ t)) wr.drew := hB.drew
          clear hb he
          go_wp2_with fail
          go_region_held3 (fun w' => w'.cell? (ad.add (i * 6)) = some (.string a_) ∧ w'.cell? ⟨(ad.add (i * 6)).block, (ad.add (i * 6)).off + 1, none⟩ = some (.int .i64 b_) ∧ w'.cell? ⟨(ad.add (i * 6)).block, (ad.add (i * 6)).off + 2, none⟩ = some (.int .i64 c_) ∧ w'.cell? ⟨(ad.add (i * 6)).block, (ad.add (i * 6)).off + 3, none⟩ = some (.int .i64 d_) ∧ w'.cell? ⟨(ad.add (i * 6)).block, (ad.add (i * 6)).off + 4, none⟩ = some (.int .i64 e_) ∧ w'.cell? ⟨(ad.add (i * 6)).block, (ad.add (i * 6)).off + 5, none⟩ = some (.string f_) ∧ w'.cell? ⟨w.heap.size, 0, none⟩ = some (.string u) ∧ w'.cell? ⟨w.heap.size, 1, none⟩ = some (.int .i64 i_) ∧ w'.cell? ⟨w.heap.size, 2, none⟩ = some (.int .i64 a) ∧ w'.cell? ⟨w.heap.size, 3, none⟩ = some (.int .i64 p) ∧ w'.cell? ⟨w.heap.size, 4, none⟩ = some (.int .i64 n_) ∧ w'.cell? ⟨w.heap.size, 5, none⟩ = some (.string t)) (exact ⟨c0, c1, c2, c3, c4, c5, s0, s1, s2, s3, s4, s5⟩) (((go_at_call 87; refine (re_ (refAheadS_calls a_ b_ c_ d_ e_ f_ u i_ a p n_ t _) (ret_bool HB.out)).mono ?_); rintro e wx ⟨rfl, hbx⟩; replace hD := hD.trans (hbx.mono hD.size); replace c0 := cell_below hbx c0; replace c1 := cell_below hbx c1; replace c2 := cell_below hbx c2; replace c3 := cell_below hbx c3; replace c4 := cell_below hbx c4; replace c5 := cell_below hbx c5; replace s0 := cell_below hbx s0; replace s1 := cell_below hbx s1; replace s2 := cell_below hbx s2; replace s3 := cell_below hbx s3; replace s4 := cell_below hbx s4; replace s5 := cell_below hbx s5; clear hbx))
          all_goals
            clear c0 c1 c2 c3 c4 c5 s0 s1 s2 s3 s4 s5 sz
            cases b with
            | true =>
              have HT2 : Hid (∀ j (h : j < l.length), j < i + 1 → ltSe (keySe l[j]) ((u, i_) : SeK) = true) := fun j h hj => by
                rcases Nat.lt_or_ge j i with h' | h'
                · exact HT.out j h h'
                · obtain rfl : j = i := by omega
                  exact HLT.out
              go_wp2
              exact ⟨⟨i + 1, by go_num, by omega, hD, HT2⟩, by simp [intOf]; omega⟩
            | false =>
              have HAT : Hid (atSe l ⟨u, i_, a, p, n_, t⟩ = i) := atSe_is (by have := EA.out; omega) HT.out (fun h => HLT.out)
              have hTk := hl.take enSe_len i (by omega)
              have hDk : Row enSe 6 w (.slice (some (ad.add (i * 6))) (n - i) (c - i)) (l.drop i) := by
                have := hl.drop enSe_len i (by omega)
                rwa [if_neg (by omega)] at this
              have HTK := Lib.hid hTk
              have HDK := Lib.hid hDk
              have y1 : i ≤ n := by omega
              have y2 : i ≤ c := by omega
              have y3 : ¬ (c = i) := by omega
              have y4 : (i : Int) ≤ (n : Int) := by omega
              have y5 : (i : Int) ≤ (c : Int) := by omega
              clear hTk hDk
              have O2 := (HEN.out wx).lower (base' := (w.alloc (bxSe u i_ a p n_ t)).heap.size) hD.size
              have B3 := hD.alloc hD.size (.cells #[] 99)
              go_wp2_with (first | (at_builtin; refine Own.appendRow (w0 := (w.alloc (bxSe u i_ a p n_ t))) (w.alloc (bxSe u i_ a p n_ t)).heap.size rfl (.tmp 53) (.tmp 56) 23 99 zvSe 6 64 rfl Tryz.underlying23 infoSe rfl (by decide) (.slice (some ⟨wx.heap.size, 0, none⟩) 0 0) (.slice (some ad) i c) [] (l.take i) rfl rfl enSe_one O2 ((HTK.out).below (below_call hBx B3)) B3 B3.size (by have := HZ1.out; simp only [List.length_nil, List.length_take]; omega) (by have := HZ1.out; simp only [List.length_nil, List.length_take]; omega) ?_; intro v4 w4 hO4 hB4 _ _; (obtain ⟨s0, s1, s2, s3, s4, s5, sz⟩ := cellsSe u i_ a p n_ t (hcall hbox hB4))) | (at_builtin; refine Own.append (w0 := (w.alloc (bxSe u i_ a p n_ t))) (w.alloc (bxSe u i_ a p n_ t)).heap.size rfl (.tmp 58) (.tmp 60) 23 99 zvSe 6 64 rfl Tryz.underlying23 infoSe rfl (by decide) v4 ([] ++ (l.take i)) ⟨u, i_, a, p, n_, t⟩ (enSe ⟨u, i_, a, p, n_, t⟩) rfl rfl rfl rfl (enSe_one _) hO4 hB4 hB4.size (by have := HZ1.out; simp only [List.length_append, List.length_nil, List.length_take]; omega) (by have := HZ1.out; simp only [List.length_append, List.length_nil, List.length_take]; omega) ?_; intro v5 w5 hO5 hB5 _ _) | (at_builtin; refine Own.appendRow (w0 := (w.alloc (bxSe u i_ a p n_ t))) (w.alloc (bxSe u i_ a p n_ t)).heap.size rfl (.tmp 62) (.tmp 65) 23 99 zvSe 6 64 rfl Tryz.underlying23 infoSe rfl (by decide) v5 (.slice (some (ad.add (i * 6))) (n - i) (c - i)) ([] ++ (l.take i) ++ [⟨u, i_, a, p, n_, t⟩]) (l.drop i) rfl rfl enSe_one hO5 (HDK.out.below (below_call hBx hB5)) hB5 hB5.size (by have := HZ1.out; simp only [List.length_append, List.length_nil, List.length_cons, List.length_take, List.length_drop]; omega) (by have := HZ1.out; simp only [List.length_append, List.length_nil, List.length_cons, List.length_take, List.length_drop]; omega) ?_; intro v6 w6 hO6 hB6 _ _))
              all_goals
                go_ret2
                rw [HF.out.1, HF.out.2, HAT.out]
                refine ⟨_, rfl, ?_, below_call hBx hB6, .inr fun g hg => Nat.le_trans hBx.size (hO6.base_le g (by simpa using hg))⟩
                have := hO6.row
                simpa using this
        · have hin : i = n := by omega
          subst hin
          have HAT : Hid (atSe l ⟨u, i_, a, p, n_, t⟩ = i) := atSe_is (by have := EA.out; omega) HT.out (fun h => absurd h (by have := EA.out; omega))
          have HDN : Hid (l.take i = l ∧ l.drop i = []) := ⟨List.take_of_length_le (by have := EA.out; omega), List.drop_eq_nil_of_le (by have := EA.out; omega)⟩
          have HRE : Hid (∀ (W : World) (A' : Option Addr) (c' : Nat), c' ≤ 9223372036854775807 → Row enSe 6 W (.slice A' 0 c') []) := fun W A' c' h => Row.empty enSe 6 W A' c' h
          obtain h0 | h0 : i = 0 ∨ 0 < i := by omega
          · subst h0
            have HTK := Lib.hid (hl.take enSe_len 0 (by omega))
            have hd1 : decide ((0 : Int) < ((0 : Nat) : Int)) = false := by decide
            go_wp2_with fail
            go_quiet (fail)
            have hD : Below (w.alloc (bxSe u i_ a p n_ t)).heap.size (w.alloc (bxSe u i_ a p n_ t)) (wr.drewN nq) := below_drewN hB _
            have O2 := (HEN.out wr).lower (base' := (w.alloc (bxSe u i_ a p n_ t)).heap.size) hD.size
            have B3 := hD.alloc hD.size (.cells #[] 99)
            go_wp2_with (first | (at_builtin; refine Own.appendRow (w0 := (w.alloc (bxSe u i_ a p n_ t))) (w.alloc (bxSe u i_ a p n_ t)).heap.size rfl (.tmp 53) (.tmp 56) 23 99 zvSe 6 64 rfl Tryz.underlying23 infoSe rfl (by decide) (.slice (some ⟨wr.heap.size, 0, none⟩) 0 0) (.slice A 0 c) [] (l.take 0) rfl rfl enSe_one O2 ((HTK.out).below (below_call hBx B3)) B3 B3.size (by have := HZ1.out; simp only [List.length_nil, List.length_take]; omega) (by have := HZ1.out; simp only [List.length_nil, List.length_take]; omega) ?_; intro v4 w4 hO4 hB4 _ _; (obtain ⟨s0, s1, s2, s3, s4, s5, sz⟩ := cellsSe u i_ a p n_ t (hcall hbox hB4))) | (at_builtin; refine Own.append (w0 := (w.alloc (bxSe u i_ a p n_ t))) (w.alloc (bxSe u i_ a p n_ t)).heap.size rfl (.tmp 58) (.tmp 60) 23 99 zvSe 6 64 rfl Tryz.underlying23 infoSe rfl (by decide) v4 ([] ++ (l.take 0)) ⟨u, i_, a, p, n_, t⟩ (enSe ⟨u, i_, a, p, n_, t⟩) rfl rfl rfl rfl (enSe_one _) hO4 hB4 hB4.size (by have := HZ1.out; simp only [List.length_append, List.length_nil, List.length_take]; omega) (by have := HZ1.out; simp only [List.length_append, List.length_nil, List.length_take]; omega) ?_; intro v5 w5 hO5 hB5 _ _) | (at_builtin; refine Own.appendRow (w0 := (w.alloc (bxSe u i_ a p n_ t))) (w.alloc (bxSe u i_ a p n_ t)).heap.size rfl (.tmp 62) (.tmp 65) 23 99 zvSe 6 64 rfl Tryz.underlying23 infoSe rfl (by decide) v5 _ ([] ++ (l.take 0) ++ [⟨u, i_, a, p, n_, t⟩]) [] rfl rfl enSe_one hO5 (HRE.out _ _ _ (by omega)) hB5 hB5.size (by have := HZ1.out; simp only [List.length_append, List.length_nil, List.length_cons, List.length_take, List.length_drop]; omega) (by have := HZ1.out; simp only [List.length_append, List.length_nil, List.length_cons, List.length_take, List.length_drop]; omega) ?_; intro v6 w6 hO6 hB6 _ _))
            all_goals
              go_ret2
              rw [HF.out.1, HF.out.2, HAT.out, HDN.out.2]
              refine ⟨_, rfl, ?_, below_call hBx hB6, .inr fun g hg => Nat.le_trans hBx.size (hO6.base_le g (by simpa using hg))⟩
              have := hO6.row
              simpa using this
          · by_cases hci : c = i
            · subst hci
              have HTK := Lib.hid (hl.take enSe_len c (by omega))
              have hd1 : decide ((c : Int) < (c : Int)) = false := by simp
              go_wp2_with fail
              go_quiet (fail)
              have hD : Below (w.alloc (bxSe u i_ a p n_ t)).heap.size (w.alloc (bxSe u i_ a p n_ t)) (wr.drewN nq) := below_drewN hB _
              have O2 := (HEN.out wr).lower (base' := (w.alloc (bxSe u i_ a p n_ t)).heap.size) hD.size
              have B3 := hD.alloc hD.size (.cells #[] 99)
              go_wp2_with (first | (at_builtin; refine Own.appendRow (w0 := (w.alloc (bxSe u i_ a p n_ t))) (w.alloc (bxSe u i_ a p n_ t)).heap.size rfl (.tmp 53) (.tmp 56) 23 99 zvSe 6 64 rfl Tryz.underlying23 infoSe rfl (by decide) (.slice (some ⟨wr.heap.size, 0, none⟩) 0 0) (.slice A c c) [] (l.take c) rfl rfl enSe_one O2 ((HTK.out).below (below_call hBx B3)) B3 B3.size (by have := HZ1.out; simp only [List.length_nil, List.length_take]; omega) (by have := HZ1.out; simp only [List.length_nil, List.length_take]; omega) ?_; intro v4 w4 hO4 hB4 _ _; (obtain ⟨s0, s1, s2, s3, s4, s5, sz⟩ := cellsSe u i_ a p n_ t (hcall hbox hB4))) | (at_builtin; refine Own.append (w0 := (w.alloc (bxSe u i_ a p n_ t))) (w.alloc (bxSe u i_ a p n_ t)).heap.size rfl (.tmp 58) (.tmp 60) 23 99 zvSe 6 64 rfl Tryz.underlying23 infoSe rfl (by decide) v4 ([] ++ (l.take c)) ⟨u, i_, a, p, n_, t⟩ (enSe ⟨u, i_, a, p, n_, t⟩) rfl rfl rfl rfl (enSe_one _) hO4 hB4 hB4.size (by have := HZ1.out; simp only [List.length_append, List.length_nil, List.length_take]; omega) (by have := HZ1.out; simp only [List.length_append, List.length_nil, List.length_take]; omega) ?_; intro v5 w5 hO5 hB5 _ _) | (at_builtin; refine Own.appendRow (w0 := (w.alloc (bxSe u i_ a p n_ t))) (w.alloc (bxSe u i_ a p n_ t)).heap.size rfl (.tmp 62) (.tmp 65) 23 99 zvSe 6 64 rfl Tryz.underlying23 infoSe rfl (by decide) v5 _ ([] ++ (l.take c) ++ [⟨u, i_, a, p, n_, t⟩]) [] rfl rfl enSe_one hO5 (HRE.out _ _ _ (by omega)) hB5 hB5.size (by have := HZ1.out; simp only [List.length_append, List.length_nil, List.length_cons, List.length_take, List.length_drop]; omega) (by have := HZ1.out; simp only [List.length_append, List.length_nil, List.length_cons, List.length_take, List.length_drop]; omega) ?_; intro v6 w6 hO6 hB6 _ _))
              all_goals
                go_ret2
                rw [HF.out.1, HF.out.2, HAT.out, HDN.out.2]
                refine ⟨_, rfl, ?_, below_call hBx hB6, .inr fun g hg => Nat.le_trans hBx.size (hO6.base_le g (by simpa using hg))⟩
                have := hO6.row
                simpa using this
            · have hci' : i < c := by omega
              have HTK := Lib.hid (hl.take enSe_len i (by omega))
              have hd1 : decide ((i : Int) < (i : Int)) = false := by simp
              go_wp2_with fail
              go_quiet (fail)
              have hD : Below (w.alloc (bxSe u i_ a p n_ t)).heap.size (w.alloc (bxSe u i_ a p n_ t)) (wr.drewN nq) := below_drewN hB _
              have O2 := (HEN.out wr).lower (base' := (w.alloc (bxSe u i_ a p n_ t)).heap.size) hD.size
              have B3 := hD.alloc hD.size (.cells #[] 99)
              go_wp2_with (first | (at_builtin; refine Own.appendRow (w0 := (w.alloc (bxSe u i_ a p n_ t))) (w.alloc (bxSe u i_ a p n_ t)).heap.size rfl (.tmp 53) (.tmp 56) 23 99 zvSe 6 64 rfl Tryz.underlying23 infoSe rfl (by decide) (.slice (some ⟨wr.heap.size, 0, none⟩) 0 0) (.slice A i c) [] (l.take i) rfl rfl enSe_one O2 ((HTK.out).below (below_call hBx B3)) B3 B3.size (by have := HZ1.out; simp only [List.length_nil, List.length_take]; omega) (by have := HZ1.out; simp only [List.length_nil, List.length_take]; omega) ?_; intro v4 w4 hO4 hB4 _ _; (obtain ⟨s0, s1, s2, s3, s4, s5, sz⟩ := cellsSe u i_ a p n_ t (hcall hbox hB4))) | (at_builtin; refine Own.append (w0 := (w.alloc (bxSe u i_ a p n_ t))) (w.alloc (bxSe u i_ a p n_ t)).heap.size rfl (.tmp 58) (.tmp 60) 23 99 zvSe 6 64 rfl Tryz.underlying23 infoSe rfl (by decide) v4 ([] ++ (l.take i)) ⟨u, i_, a, p, n_, t⟩ (enSe ⟨u, i_, a, p, n_, t⟩) rfl rfl rfl rfl (enSe_one _) hO4 hB4 hB4.size (by have := HZ1.out; simp only [List.length_append, List.length_nil, List.length_take]; omega) (by have := HZ1.out; simp only [List.length_append, List.length_nil, List.length_take]; omega) ?_; intro v5 w5 hO5 hB5 _ _) | (at_builtin; refine Own.appendRow (w0 := (w.alloc (bxSe u i_ a p n_ t))) (w.alloc (bxSe u i_ a p n_ t)).heap.size rfl (.tmp 62) (.tmp 65) 23 99 zvSe 6 64 rfl Tryz.underlying23 infoSe rfl (by decide) v5 _ ([] ++ (l.take i) ++ [⟨u, i_, a, p, n_, t⟩]) [] rfl rfl enSe_one hO5 (HRE.out _ _ _ (by omega)) hB5 hB5.size (by have := HZ1.out; simp only [List.length_append, List.length_nil, List.length_cons, List.length_take, List.length_drop]; omega) (by have := HZ1.out; simp only [List.length_append, List.length_nil, List.length_cons, List.length_take, List.length_drop]; omega) ?_; intro v6 w6 hO6 hB6 _ _))
              all_goals
                go_ret2
                rw [HF.out.1, HF.out.2, HAT.out, HDN.out.2]
                refine ⟨_, rfl, ?_, below_call hBx hB6, .inr fun g hg => Nat.le_trans hBx.size (hO6.base_le g (by simpa using hg))⟩
                have := hO6.row
                simpa using this
end Go.Proofs.YtbpfcjdjhponaaaGreat
namespace Go.Proofs.YtbpfcjdjhponaaaGreat
open Go.RowKit
open Sp
section
variable (n c : Nat) (A : Option Addr) (l : List Se) (w : World) (hl : Row enSe 6 w (.slice A n c) l)
include hl
theorem refPut9F_is (u : ByteArray) (i a p m : Int) (t : ByteArray) (r : List Se) (er : Int) (hz : SzSe l) (hu : u.size ≤ 140737488351232) (ht : t.size ≤ 140737488351232) (h : Hid (putSe l ⟨u, i, a, p, m, t⟩ = (r, er))) :
    Calls Tryz.prog 113 #[.slice A n c, ag6 u i a p m t] w fun e w' => ∃ v, e = .returned (.tuple #[v, .int .i64 er]) ∧ Row enSe 6 w' v r ∧ Below w.heap.size w w' ∧ (v = .slice A n c ∨ ∀ g, v.ownBlock = some g → w.heap.size ≤ g) := by
  have := refPut9_calls n c A l u i a p m t w hl hz hu ht
  rwa [h.out] at this
theorem refDrop9F_is (u : ByteArray) (i : Int) (r : List Se) (er : Int) (hz : SzSe l) (h : Hid (dropSe l (u, i) = (r, er))) :
    Calls Tryz.prog 114 #[.slice A n c, .string u, .int .i64 i] w fun e w' => ∃ v, e = .returned (.tuple #[v, .int .i64 er]) ∧ Row enSe 6 w' v r ∧ Below w.heap.size w w' ∧ (v = .slice A n c ∨ ∀ g, v.ownBlock = some g → w.heap.size ≤ g) := by
  have := refDrop9_calls n c A l u i w hl hz
  rwa [h.out] at this
theorem May9_is (b : Bool) (hz : SzSe l) (h : Hid (maySe l = b)) : Calls Tryz.prog 95 #[.slice A n c] w fun e w' => e = .returned (.bool b) ∧ Below w.heap.size w w' :=
  re_ (May9_calls n c A l w hl hz) (ret_bool h.out)
theorem refMay9_is (b : Bool) (hz : SzSe l) (h : Hid (maySe l = b)) : Calls Tryz.prog 38 #[.slice A n c] w fun e w' => e = .returned (.bool b) ∧ Below w.heap.size w w' :=
  re_ (refMay9_calls n c A l w hl hz) (ret_bool h.out)
theorem few9_is (b : Bool) (hz : ∀ s ∈ l, s.u.size ≤ 9223372036854775807 ∧ s.v.2.2.2.size ≤ 9223372036854775807) (h : Hid (fewSe l = b)) : Calls Tryz.prog 36 #[.slice A n c] w fun e w' => e = .returned (.bool b) ∧ Below w.heap.size w w' :=
  re_ (few9_calls n c A l w hl hz) (ret_bool h.out)
theorem Of9_is (q : ByteArray) (r : List Se) (hn : n ≤ 100000) (h : Hid (ofSe l q = r)) : Calls Tryz.prog 64 #[.slice A n c, .string q] w fun e w' => ∃ v, e = .returned v ∧ Row enSe 6 w' v r ∧ Below w.heap.size w w' :=
  (Of9_calls n c A l q w hl hn).mono fun e w' ⟨v, he, ho, hb⟩ => ⟨v, he, by have := ho.row; rwa [show l.filter (fun s => decide (s.u = q)) = r from h.out] at this, hb⟩
end
theorem few_sz {l : List Se} (h : fewSe l = true) : SzSe l ∧ l.length ≤ 50 := by
  unfold fewSe at h
  rw [Bool.and_eq_true, List.all_eq_true, decide_eq_true_eq] at h
  refine ⟨fun s hs => ?_, h.1⟩
  have := h.2 s hs
  rw [Bool.and_eq_true, decide_eq_true_eq, decide_eq_true_eq] at this
  omega
end Go.Proofs.YtbpfcjdjhponaaaGreat
namespace Go.Proofs.YtbpfcjdjhponaaaGreat
open Go.RowKit
open Sp
abbrev agT (A : Option Addr) (n c : Nat) (B : Option Addr) (m d : Nat) : Value := .agg #[.slice A n c, .slice B m d]
abbrev bxT (A : Option Addr) (n c : Nat) (B : Option Addr) (m d : Nat) : Obj := .cells #[.slice A n c, .slice B m d] 25
theorem cellsT {W : World} {g : Nat} {A : Option Addr} {n c : Nat} {B : Option Addr} {m d : Nat} (h : W.heap[g]? = some (bxT A n c B m d)) : W.cell? ⟨g, 0, none⟩ = some (.slice A n c) ∧ W.cell? ⟨g, 1, none⟩ = some (.slice B m d) ∧ g < W.heap.size :=
  ⟨by simp [World.cell?, h], by simp [World.cell?, h], (Array.getElem?_eq_some_iff.1 h).1⟩
section
variable (n c : Nat) (A : Option Addr) (l : List En) (m d : Nat) (B : Option Addr) (s : List Se) (w : World) (hl : Row enEn 7 w (.slice A n c) l) (hs : Row enSe 6 w (.slice B m d) s)
include hl hs
set_option maxHeartbeats 16000000 in
set_option maxRecDepth 100000 in
theorem MayT_is (hz : SzRo l) (hy : SzSe s) (hn : n ≤ 100000) (b : Bool) (h : Hid (mayT (l, s) = b)) :
    Calls Tryz.prog 54 #[agT A n c B m d] w fun e w' => e = .returned (.bool b) ∧ Below w.heap.size w w' := by
  have D := below_box (w := w) (bxT A n c B m d)
  have hb := heap_alloc_new w (bxT A n c B m d)
  replace hl := hl.below D
  replace hs := hs.below D
  have h0 := h.out
  unfold mayT at h0
  simp only at h0
  clear h
  obtain ⟨r, hr⟩ : ∃ r, mayRo l = r := ⟨_, rfl⟩
  rw [hr] at h0
  have HR := Lib.hid hr
  clear hr
  cases r with
  | false =>
    have HF : Hid (b = false) := by show _ = _; rw [← h0]; rfl
    clear h0
    obtain ⟨z0, z1, zz⟩ := cellsT hb
    go_enter Tryz.func54, Tryz.ntmps54
    go_wp2_with fail
    with_reducible refine (May8_is n c A l _ hl false hz hn HR).mono ?_
    rintro e w1 ⟨rfl, b1⟩
    replace hl := hl.below b1
    replace hs := hs.below b1
    replace hb := hcall hb b1
    replace D := below_call D b1
    clear b1 z0 z1 zz
    go_wp2
    go_ret
    rw [HF.out]
    exact ⟨rfl, D⟩
  | true =>
    have HF : Hid (maySe s = b) := by show _ = _; rw [← h0]; rfl
    clear h0
    obtain ⟨z0, z1, zz⟩ := cellsT hb
    go_enter Tryz.func54, Tryz.ntmps54
    go_wp2_with fail
    with_reducible refine (May8_is n c A l _ hl true hz hn HR).mono ?_
    rintro e w1 ⟨rfl, b1⟩
    replace hl := hl.below b1
    replace hs := hs.below b1
    replace hb := hcall hb b1
    replace D := below_call D b1
    clear b1 z0 z1 zz
    obtain ⟨z0, z1, zz⟩ := cellsT hb
    go_wp2_with fail
    with_reducible refine (May9_is m d B s _ hs b hy HF).mono ?_
    rintro e w2 ⟨rfl, b2⟩
    replace hl := hl.below b2
    replace hs := hs.below b2
    replace hb := hcall hb b2
    replace D := below_call D b2
    clear b2 z0 z1 zz
    go_wp2
    go_ret
    exact ⟨rfl, D⟩
set_option maxHeartbeats 16000000 in
set_option maxRecDepth 100000 in
theorem refMayT_is (hz : SzRo l) (hy : SzSe s) (hn : n ≤ 100000) (b : Bool) (h : Hid (mayT (l, s) = b)) :
    Calls Tryz.prog 10 #[agT A n c B m d] w fun e w' => e = .returned (.bool b) ∧ Below w.heap.size w w' := by
  have D := below_box (w := w) (bxT A n c B m d)
  have hb := heap_alloc_new w (bxT A n c B m d)
  replace hl := hl.below D
  replace hs := hs.below D
  have h0 := h.out
  unfold mayT at h0
  simp only at h0
  clear h
  obtain ⟨r, hr⟩ : ∃ r, mayRo l = r := ⟨_, rfl⟩
  rw [hr] at h0
  have HR := Lib.hid hr
  clear hr
  cases r with
  | false =>
    have HF : Hid (b = false) := by show _ = _; rw [← h0]; rfl
    clear h0
    obtain ⟨z0, z1, zz⟩ := cellsT hb
    go_enter Tryz.func10, Tryz.ntmps10
    go_wp2_with fail
    with_reducible refine (refMay8_is n c A l _ hl false hz hn HR).mono ?_
    rintro e w1 ⟨rfl, b1⟩
    replace hl := hl.below b1
    replace hs := hs.below b1
    replace hb := hcall hb b1
    replace D := below_call D b1
    clear b1 z0 z1 zz
    go_wp2
    go_ret
    rw [HF.out]
    exact ⟨rfl, D⟩
  | true =>
    have HF : Hid (maySe s = b) := by show _ = _; rw [← h0]; rfl
    clear h0
    obtain ⟨z0, z1, zz⟩ := cellsT hb
    go_enter Tryz.func10, Tryz.ntmps10
    go_wp2_with fail
    with_reducible refine (refMay8_is n c A l _ hl true hz hn HR).mono ?_
    rintro e w1 ⟨rfl, b1⟩
    replace hl := hl.below b1
    replace hs := hs.below b1
    replace hb := hcall hb b1
    replace D := below_call D b1
    clear b1 z0 z1 zz
    obtain ⟨z0, z1, zz⟩ := cellsT hb
    go_wp2_with fail
    with_reducible refine (refMay9_is m d B s _ hs b hy HF).mono ?_
    rintro e w2 ⟨rfl, b2⟩
    replace hl := hl.below b2
    replace hs := hs.below b2
    replace hb := hcall hb b2
    replace D := below_call D b2
    clear b2 z0 z1 zz
    go_wp2
    go_ret
    exact ⟨rfl, D⟩
end
end Go.Proofs.YtbpfcjdjhponaaaGreat
namespace Go.Proofs.YtbpfcjdjhponaaaGreat
open Go.RowKit
open Sp
theorem bodyPost_ct {P : Program} {fn : Func} {R : Ending → World → Prop} {a : Act} {w : World} {p u : Tmp} {ty : TypeId} (h : fn.results = #[.cell p ty, .tmp u]) (g : Nat) (t : TypeId) (cs : Array Value) (fr : Nat × Nat) (d : TypeDesc)
    (hp : a.tmps.getD p undef = .pointer (some ⟨g, 0, none⟩)) (hg : w.heap[g]? = some (.cells cs t fr))
    (hu : P.underlying ty = some d) (hd : (match d with | .struct _ | .array _ _ => true | _ => false) = true) (hi : (P.info? ty).map (·.size) = some cs.size)
    (hde : a.defers = []) (hR : R (.returned (.tuple #[.agg cs, a.tmps.getD u undef])) w) : bodyPost P fn R .ret a w := by
  refine bodyPost_ret ?_ hde hR
  have hp' : a.tmps[p]?.getD undef = .pointer (some ⟨g, 0, none⟩) := by simpa using hp
  simp [results, h, hp', asAddr, run_loadVar_row w g t ty cs fr d hg hu hd hi]
theorem info_st : (Tryz.prog.info? 25).map (·.size) = some 2 := by kernel_rfl
theorem openT {W : World} {g : Nat} {A : Option Addr} {n c : Nat} {B : Option Addr} {m d : Nat} (h : W.heap[g]? = some (bxT A n c B m d)) : (W.cell? ⟨g, 0, none⟩ = some (.slice A n c) ∧ W.cell? ⟨g, 1, none⟩ = some (.slice B m d)) ∧ (W.frozen? ⟨g, 0, none⟩ = false ∧ W.frozen? ⟨g, 1, none⟩ = false) ∧ g < W.heap.size :=
  ⟨⟨by simp [World.cell?, h], by simp [World.cell?, h]⟩, ⟨by simp [World.frozen?, h], by simp [World.frozen?, h]⟩, (Array.getElem?_eq_some_iff.1 h).1⟩
theorem hset_neT {w : World} {g k i : Nat} {v : Value} {o : Option Obj} (hk : k ≠ g) (h : w.heap[k]? = o) : (w.setCell ⟨g, i, none⟩ v).heap[k]? = o := by
  simp [World.setCell, Array.getElem?_modify, Ne.symm hk, h]
theorem hset0 {w : World} {g : Nat} {A : Option Addr} {n c : Nat} {B : Option Addr} {m d : Nat} (h : w.heap[g]? = some (bxT A n c B m d)) (A' : Option Addr) (n' c' : Nat) : (w.setCell ⟨g, 0, none⟩ (.slice A' n' c')).heap[g]? = some (bxT A' n' c' B m d) := by
  simp [World.setCell, Array.getElem?_modify, h]
theorem hset1 {w : World} {g : Nat} {A : Option Addr} {n c : Nat} {B : Option Addr} {m d : Nat} (h : w.heap[g]? = some (bxT A n c B m d)) (A' : Option Addr) (n' c' : Nat) : (w.setCell ⟨g, 1, none⟩ (.slice A' n' c')).heap[g]? = some (bxT A n c A' n' c') := by
  simp [World.setCell, Array.getElem?_modify, h]
theorem Row.setT {α : Type} {enc : α → List Value} {k : Nat} {w : World} {v : Value} {xs : List α} {g : Nat} {A : Option Addr} {n c : Nat} {B : Option Addr} {m d : Nat} (h : Row enc k w v xs) (hns : ∀ y u, u ∈ enc y → ∀ A n c, u ≠ .slice A n c) (hg : w.heap[g]? = some (bxT A n c B m d)) (i : Nat) (x : Value) : Row enc k (w.setCell ⟨g, i, none⟩ x) v xs := by
  obtain ⟨A', c', rfl, h1, h2, h3, h4⟩ := h
  refine ⟨A', c', rfl, h1, h2, h3, fun hp => ?_⟩
  obtain ⟨ad, e, hc⟩ := h4 hp
  refine ⟨ad, e, fun j u hu => ?_⟩
  have h5 := hc j u hu
  have hm : u ∈ xs.flatMap enc := List.mem_of_getElem? hu
  obtain ⟨y, _, hy⟩ := List.mem_flatMap.1 hm
  have hb : g ≠ (ad.add j).block := by
    intro e
    unfold World.cell? at h5
    rw [← e, hg] at h5
    simp only at h5
    split at h5
    · cases h5
    · rcases Array.getElem?_eq_some_iff.1 h5 with ⟨ho, h6⟩
      have : (ad.add j).off = 0 ∨ (ad.add j).off = 1 := by simp at ho; omega
      rcases this with h7 | h7
      · simp only [h7] at h6; exact hns y u hy _ _ _ h6.symm
      · simp only [h7] at h6; exact hns y u hy _ _ _ h6.symm
  rw [World.cell?_setCell_far _ _ _ _ hb]
  exact h5
def Fresh (w : World) (v v' : Value) : Prop := v' = v ∨ ∀ g, v'.ownBlock = some g → w.heap.size ≤ g
theorem Fresh.self {w : World} {v : Value} : Fresh w v v := .inl rfl
theorem Fresh.up {w w1 : World} {v v' : Value} (h : v' = v ∨ ∀ g, v'.ownBlock = some g → w1.heap.size ≤ g) (hs : w.heap.size ≤ w1.heap.size) : Fresh w v v' := h.imp id fun h g hg => Nat.le_trans hs (h g hg)
theorem nsEn : ∀ (y : En) (u : Value), u ∈ enEn y → ∀ A n c, u ≠ .slice A n c := by
  intro y u hu A n c e
  subst e
  simp [enEn] at hu
theorem nsSe : ∀ (y : Se) (u : Value), u ∈ enSe y → ∀ A n c, u ≠ .slice A n c := by
  intro y u hu A n c e
  subst e
  simp [enSe] at hu
section
variable (n c : Nat) (A : Option Addr) (l : List En) (m d : Nat) (B : Option Addr) (s : List Se) (w : World) (hl : Row enEn 7 w (.slice A n c) l) (hs : Row enSe 6 w (.slice B m d) s) (hz : SzRo l) (hy : SzSe s) (hn : n ≤ 900)
include hl hs hz hy hn
end
end Go.Proofs.YtbpfcjdjhponaaaGreat
namespace Go.Proofs.YtbpfcjdjhponaaaGreat
open Go.RowKit
open Sp
namespace Sp
theorem setRo_mem {l : List En} {x y : En} {keep : Bool} (h : y ∈ setRo l x keep) : y = x ∨ y ∈ l := by
  unfold setRo at h
  have hd : ∀ z, z ∈ delK keyRo l (keyRo x) → z ∈ l := fun z hz => (delK_mem.1 hz).1
  split at h
  · rcases List.mem_append.1 h with h | h
    · exact .inr (hd _ (List.takeWhile_subset _ h))
    · rcases List.mem_cons.1 h with h | h
      · exact .inl h
      · exact .inr (hd _ (List.dropWhile_subset _ h))
  · exact .inr (hd _ h)
theorem setRo_len' (l : List En) (x : En) (keep : Bool) : (setRo l x keep).length ≤ l.length + 1 := by
  have h1 : (delK keyRo l (keyRo x)).length ≤ l.length := List.length_filter_le _ _
  unfold setRo
  split
  · have h2 := congrArg List.length (tw_dw (delK keyRo l (keyRo x)) (fun y => !ltRo (keyRo x) (keyRo y)))
    rw [List.length_append] at h2
    rw [List.length_append, List.length_cons]
    omega
  · omega
theorem doRo_sz {l : List En} {k : Int} {u o : ByteArray} {r : List En} {e : Int} (h : doRo l k u o = (r, e)) : r.length ≤ l.length + 2 ∧ ∀ x ∈ r, (x ∈ l ∨ (x.o = u ∧ x.c = o) ∨ (x.o = o ∧ x.c = u)) := by
  by_cases he : e = 0
  · subst he
    obtain ⟨_, a, b, _, rfl⟩ := doRo_ok h
    have h1 := setRo_len' l ⟨u, o, a⟩ (!(emptyI a && emptyI b))
    have h2 := setRo_len' (setRo l ⟨u, o, a⟩ (!(emptyI a && emptyI b))) ⟨o, u, b⟩ (!(emptyI a && emptyI b))
    refine ⟨by omega, fun x hx => ?_⟩
    rcases setRo_mem hx with rfl | hx
    · exact .inr (.inr ⟨rfl, rfl⟩)
    · rcases setRo_mem hx with rfl | hx
      · exact .inr (.inl ⟨rfl, rfl⟩)
      · exact .inl hx
  · rw [doRo_err h he]
    exact ⟨by omega, fun x hx => .inl hx⟩
theorem putSe_mem {l : List Se} {s : Se} {r : List Se} {e : Int} (h : putSe l s = (r, e)) : ∀ x ∈ r, x = s ∨ x ∈ l := by
  by_cases he : e = 0
  · subst he
    obtain ⟨_, _, rfl, _⟩ := putSe_ok h
    intro x hx
    rcases putK_mem.1 hx with rfl | hx
    · exact .inl rfl
    · exact .inr hx.1
  · rw [putSe_err h he]
    exact fun x hx => .inr hx
theorem dropSe_mem {l : List Se} {k : SeK} {r : List Se} {e : Int} (h : dropSe l k = (r, e)) : ∀ x ∈ r, x ∈ l := by
  unfold dropSe at h
  split at h
  · injection h with h1 h2; subst h1; exact fun x hx => hx
  · split at h
    · injection h with h1 h2
      subst h1
      intro x hx
      rcases List.mem_append.1 hx with hx | hx
      · exact List.mem_of_mem_take hx
      · exact List.mem_of_mem_drop hx
    · injection h with h1 h2; subst h1; exact fun x hx => hx
end Sp
def SzEv (l : List Evt) : Prop := ∀ e ∈ l, e.u.size ≤ 140737488351232 ∧ e.o.size ≤ 140737488351232 ∧ e.v.2.2.2.size ≤ 140737488351232
theorem applyT_sz {s r : Sta} {e : Evt} {er : Int} (h : applyT s e = (r, er)) (hz : SzRo s.1) (hy : SzSe s.2) (hu : e.u.size ≤ 140737488351232) (ho : e.o.size ≤ 140737488351232) (ht : e.v.2.2.2.size ≤ 140737488351232) : SzRo r.1 ∧ SzSe r.2 ∧ r.1.length ≤ s.1.length + 2 := by
  obtain ⟨l, m⟩ := s
  unfold applyT at h
  simp only at hz hy
  split at h
  · injection h with h1 h2; subst h1; exact ⟨hz, hy, by simp⟩
  · split at h
    · injection h with h1 h2
      subst h1
      obtain ⟨h3, h4⟩ := doRo_sz (l := l) (k := e.k) (u := e.u) (o := e.o) (r := (doRo l e.k e.u e.o).1) (e := (doRo l e.k e.u e.o).2) rfl
      refine ⟨fun x hx => ?_, hy, h3⟩
      rcases h4 x hx with h5 | ⟨h5, h6⟩ | ⟨h5, h6⟩
      · exact hz x h5
      · rw [h5, h6]; exact ⟨hu, ho⟩
      · rw [h5, h6]; exact ⟨ho, hu⟩
    · split at h
      · injection h with h1 h2
        subst h1
        refine ⟨hz, fun x hx => ?_, by simp⟩
        rcases putSe_mem (l := m) (s := ⟨e.u, e.i, e.v⟩) (r := (putSe m ⟨e.u, e.i, e.v⟩).1) (e := (putSe m ⟨e.u, e.i, e.v⟩).2) rfl x hx with rfl | h5
        · exact ⟨hu, ht⟩
        · exact hy x h5
      · split at h
        · injection h with h1 h2
          subst h1
          exact ⟨hz, fun x hx => hy x (dropSe_mem (l := m) (k := (e.u, e.i)) (r := (dropSe m (e.u, e.i)).1) (e := (dropSe m (e.u, e.i)).2) rfl x hx), by simp⟩
        · injection h with h1 h2; subst h1; exact ⟨hz, hy, by simp⟩
def Apart (v : Value) (A : Option Addr) (n : Nat) : Prop := 0 < n → ∀ ad, A = some ad → v.ownBlock ≠ some ad.block
theorem Row.lt {α : Type} {enc : α → List Value} {k : Nat} {w : World} {A : Option Addr} {n c : Nat} {xs : List α} (h : Row enc k w (.slice A n c) xs) (hk : 0 < k) (hn : 0 < n) (ad : Addr) (e : A = some ad) : ad.block < w.heap.size := by
  obtain ⟨A', c', e1, h1, h2, h3, h4⟩ := h
  injection e1 with e2 e3 e4
  subst e2 e3
  obtain ⟨ad', e5, hc⟩ := h4 hn
  rw [e] at e5
  injection e5 with e5
  subst e5
  have hp : 0 < (xs.flatMap enc).length := by rw [h3]; exact Nat.mul_pos hn hk
  have h5 := hc 0 _ (List.getElem?_eq_getElem hp)
  have h6 := World.block_lt_of_cell? w _ h5
  rwa [add_block] at h6
theorem Row.grownP {α : Type} {enc : α → List Value} {k : Nat} {w w1 : World} {A : Option Addr} {n c : Nat} {xs : List α} {row : Option Nat} (h : Row enc k w (.slice A n c) xs) (hg : w.grownBy w1 row) (hr : 0 < n → ∀ ad, A = some ad → row ≠ some ad.block) : Row enc k w1 (.slice A n c) xs := by
  obtain ⟨A', c', e1, h1, h2, h3, h4⟩ := h
  injection e1 with e2 e3 e4
  subst e2 e3 e4
  refine ⟨A, c, rfl, h1, h2, h3, fun hp => ?_⟩
  obtain ⟨ad, e, hc⟩ := h4 hp
  exact ⟨ad, e, fun j u hu => hg.cell (hc j u hu) (fun he => hr hp ad e (by rw [← he, add_block]))⟩
theorem infoEr : (Tryz.prog.info? 35).map (fun i => (i.zero, i.size, i.bytes)) = some (some (.int .i64 0), 1, 8) := by kernel_rfl
theorem enI_one (x : Int) : ∀ u ∈ enI x, u.oneCell' = true := fun u hu => by rw [enI, List.mem_singleton] at hu; rw [hu]; rfl
theorem nsI : ∀ (y : Int) (u : Value), u ∈ enI y → ∀ A n c, u ≠ .slice A n c := by
  intro y u hu A n c e
  subst e
  simp [enI] at hu
theorem apart_fresh {vo : Value} {W : World} {A A' : Option Addr} {n c n' c' : Nat} (hv : ∀ g, vo.ownBlock = some g → g < W.heap.size) (h : Apart vo A n) (hf : Fresh W (.slice A n c) (.slice A' n' c')) : Apart vo A' n' := by
  intro hp ad e ho
  rcases hf with hf | hf
  · injection hf with e1 e2 e3
    subst e1 e2
    exact h hp ad e ho
  · have h1 := hf ad.block (by rw [e]; rfl)
    have h2 := hv _ ho
    omega
theorem Own.setLow {α : Type} {enc : α → List Value} {k : Nat} {e : TypeId} {w : World} {base g : Nat} {v : Value} {xs : List α} (h : Own enc k e w base v xs) (hg : g < base) (i : Nat) (x : Value) : Own enc k e (w.setCell ⟨g, i, none⟩ x) base v xs := by
  obtain ⟨h1, h2⟩ := h
  refine ⟨h1, h2.imp id ?_⟩
  rintro ⟨b, cap, cur, e1, hb, hh, h3, h4, h5, h6⟩
  exact ⟨b, cap, cur, e1, hb, hset_neT (by omega) hh, h3, h4, h5, h6⟩
end Go.Proofs.YtbpfcjdjhponaaaGreat
namespace Go.Proofs.YtbpfcjdjhponaaaGreat
open Go.RowKit
open Sp
def Sp.fewT (s : Sta) : Bool := fewRo s.1 && fewSe s.2
abbrev SzEs (l : List Se) : Prop := ∀ s ∈ l, s.u.size ≤ 9223372036854775807 ∧ s.v.2.2.2.size ≤ 9223372036854775807
set_option maxHeartbeats 16000000 in
set_option maxRecDepth 100000 in
theorem FewT_is (n c : Nat) (A : Option Addr) (l : List En) (m d : Nat) (B : Option Addr) (s : List Se) (w : World) (hl : Row enEn 7 w (.slice A n c) l) (hs : Row enSe 6 w (.slice B m d) s) (hz : SzE l) (hy : SzEs s) (b : Bool) (h : Hid (fewT (l, s) = b)) :
    Calls Tryz.prog 9 #[agT A n c B m d] w fun e w' => e = .returned (.bool b) ∧ Below w.heap.size w w' := by
  have D := below_box (w := w) (bxT A n c B m d)
  have hb := heap_alloc_new w (bxT A n c B m d)
  replace hl := hl.below D
  replace hs := hs.below D
  have h0 := h.out
  unfold fewT at h0
  simp only at h0
  clear h
  obtain ⟨r, hr⟩ : ∃ r, fewRo l = r := ⟨_, rfl⟩
  rw [hr] at h0
  have HR := Lib.hid hr
  clear hr
  cases r with
  | false =>
    have HF : Hid (b = false) := by show _ = _; rw [← h0]; rfl
    clear h0
    obtain ⟨z0, z1, zz⟩ := cellsT hb
    go_enter Tryz.func9, Tryz.ntmps9
    go_wp2_with fail
    with_reducible refine (few8_is n c A l _ hl false hz HR).mono ?_
    rintro e w1 ⟨rfl, b1⟩
    replace hl := hl.below b1
    replace hs := hs.below b1
    replace hb := hcall hb b1
    replace D := below_call D b1
    clear b1 z0 z1 zz
    go_wp2
    go_ret
    rw [HF.out]
    exact ⟨rfl, D⟩
  | true =>
    have HF : Hid (fewSe s = b) := by show _ = _; rw [← h0]; rfl
    clear h0
    obtain ⟨z0, z1, zz⟩ := cellsT hb
    go_enter Tryz.func9, Tryz.ntmps9
    go_wp2_with fail
    with_reducible refine (few8_is n c A l _ hl true hz HR).mono ?_
    rintro e w1 ⟨rfl, b1⟩
    replace hl := hl.below b1
    replace hs := hs.below b1
    replace hb := hcall hb b1
    replace D := below_call D b1
    clear b1 z0 z1 zz
    obtain ⟨z0, z1, zz⟩ := cellsT hb
    go_wp2_with fail
    with_reducible refine (few9_is m d B s _ hs b hy HF).mono ?_
    rintro e w2 ⟨rfl, b2⟩
    replace hl := hl.below b2
    replace hs := hs.below b2
    replace hb := hcall hb b2
    replace D := below_call D b2
    clear b2 z0 z1 zz
    go_wp2
    go_ret
    exact ⟨rfl, D⟩
theorem fewT_sz {l : List En} {s : List Se} (h : fewT (l, s) = true) : SzRo l ∧ SzSe s ∧ l.length ≤ 80 ∧ s.length ≤ 50 := by
  unfold fewT at h
  rw [Bool.and_eq_true] at h
  obtain ⟨h1, h2⟩ := fewRo_sz h.1
  obtain ⟨h3, h4⟩ := few_sz h.2
  exact ⟨h1, h3, h2, h4⟩
end Go.Proofs.YtbpfcjdjhponaaaGreat
namespace Go.Proofs.YtbpfcjdjhponaaaGreat
open Go.RowKit
open Sp
namespace Sp
def seeT (s : Sta) (p q : ByteArray) : PV × Bool := if seesRo s.1 p q then viewL (ofSe s.2 q) else ((0, 0, 0, ⟨#[]⟩), false)
def valT (s : Sta) (p q : ByteArray) : PV × Bool := if mayT s then seeT s p q else ((0, 0, 0, ⟨#[]⟩), false)
def watT (s : Sta) (q : ByteArray) : List ByteArray := if mayT s then (if (ofSe s.2 q).length = 0 then [] else watchRo s.1 q) else []
end Sp
theorem form_Se {w : World} {v : Value} {l : List Se} (h : Row enSe 6 w v l) : ∃ A c, v = .slice A l.length c := by
  obtain ⟨A, c, rfl, -⟩ := h
  exact ⟨A, c, rfl⟩
section
variable (n c : Nat) (A : Option Addr) (l : List En) (m d : Nat) (B : Option Addr) (s : List Se) (w : World) (hl : Row enEn 7 w (.slice A n c) l) (hs : Row enSe 6 w (.slice B m d) s)
include hl hs
set_option maxHeartbeats 16000000 in
set_option maxRecDepth 100000 in
theorem vValue_is (hz : SzRo l) (hy : SzSe s) (hn : n ≤ 100000) (hm : m ≤ 100000) (p q : ByteArray) (a b_ e_ : Int) (t : ByteArray) (y : Bool) (h : Hid (valT (l, s) p q = ((a, b_, e_, t), y))) :
    Calls Tryz.prog 19 #[agT A n c B m d, .string p, .string q] w fun e w' => e = .returned (.tuple #[.agg #[.int .i64 a, .int .i64 b_, .int .i64 e_, .string t], .bool y]) ∧ Below w.heap.size w w' := by
  have D := below_alloc0 (below_box (w := w) (bxT A n c B m d)) (bxPv 0 0 0 ⟨#[]⟩)
  have hb := halloc (heap_alloc_new w (bxT A n c B m d)) (bxPv 0 0 0 ⟨#[]⟩)
  have hg := heap_alloc_new (w.alloc (bxT A n c B m d)) (bxPv 0 0 0 ⟨#[]⟩)
  rw [size_alloc] at hg
  replace hl := hl.below D
  replace hs := hs.below D
  obtain ⟨z0, z1, zz⟩ := cellsT hb
  obtain ⟨g, hgg⟩ : ∃ g, w.heap.size = g := ⟨_, rfl⟩
  have h0 := h.out
  unfold valT at h0
  try simp only at h0
  clear h
  obtain ⟨r, hr⟩ : ∃ r, mayT (l, s) = r := ⟨_, rfl⟩
  rw [hr] at h0
  have HR := Lib.hid hr
  clear hr
  cases r with
  | false =>
    simp only [Bool.false_eq_true, if_false] at h0
    have HF : Hid (a = 0 ∧ b_ = 0 ∧ e_ = 0 ∧ t = ⟨#[]⟩ ∧ y = false) := by
      simp only [Prod.mk.injEq] at h0
      obtain ⟨⟨h1, h2, h3, h4⟩, h5⟩ := h0
      exact ⟨h1.symm, h2.symm, h3.symm, h4.symm, h5.symm⟩
    clear h0
    go_enter Tryz.func19, Tryz.ntmps19
    go_wp2_with fail
    try rw [hgg]
    with_reducible refine (MayT_is n c A l m d B s _ hl hs hz hy hn false HR).mono ?_
    rintro e w1 ⟨rfl, b1⟩
    try rw [hgg] at hb hg
    replace hl := hl.below b1
    replace hs := hs.below b1
    replace hb := hcall hb b1
    replace hg := hcall hg b1
    replace D := below_call D b1
    clear b1
    try clear z0 z1 zz
    obtain ⟨z0, z1, zz⟩ := cellsT hb
    obtain ⟨g0, g1, g2, g3, gz⟩ := cellsPv hg
    have fr := frozenG hg
    go_wp2_with fail
    exact bodyPost_ret (v := .tuple #[.agg #[.int .i64 0, .int .i64 0, .int .i64 0, .string ⟨#[]⟩], .bool false]) (by simp [results, Tryz.results19, go_sem, World.cell?, World.setCell, Array.getElem?_modify, hg, g0, g1, g2, g3]) rfl ⟨by rw [HF.out.1, HF.out.2.1, HF.out.2.2.1, HF.out.2.2.2.1, HF.out.2.2.2.2], (by first | exact D | exact below4 D (by omega) _ _ _ _)⟩
  | true =>
    simp only [if_true] at h0
    unfold seeT at h0
    try simp only at h0
    obtain ⟨r2, hr2⟩ : ∃ r, seesRo l p q = r := ⟨_, rfl⟩
    rw [hr2] at h0
    have HR2 := Lib.hid hr2
    clear hr2
    cases r2 with
    | false =>
      simp only [Bool.false_eq_true, if_false] at h0
      have HF : Hid (a = 0 ∧ b_ = 0 ∧ e_ = 0 ∧ t = ⟨#[]⟩ ∧ y = false) := by
        simp only [Prod.mk.injEq] at h0
        obtain ⟨⟨h1, h2, h3, h4⟩, h5⟩ := h0
        exact ⟨h1.symm, h2.symm, h3.symm, h4.symm, h5.symm⟩
      clear h0
      go_enter Tryz.func19, Tryz.ntmps19
      go_wp2_with fail
      try rw [hgg]
      with_reducible refine (MayT_is n c A l m d B s _ hl hs hz hy hn true HR).mono ?_
      rintro e w1 ⟨rfl, b1⟩
      try rw [hgg] at hb hg
      replace hl := hl.below b1
      replace hs := hs.below b1
      replace hb := hcall hb b1
      replace hg := hcall hg b1
      replace D := below_call D b1
      clear b1
      try clear z0 z1 zz
      obtain ⟨z0, z1, zz⟩ := cellsT hb
      go_wp2_with fail
      with_reducible refine (Sees8_is n c A l _ hl p q false HR2).mono ?_
      rintro e w2 ⟨rfl, b2⟩
      replace hl := hl.below b2
      replace hs := hs.below b2
      replace hb := hcall hb b2
      replace hg := hcall hg b2
      replace D := below_call D b2
      clear b2
      try clear z0 z1 zz
      obtain ⟨z0, z1, zz⟩ := cellsT hb
      obtain ⟨g0, g1, g2, g3, gz⟩ := cellsPv hg
      have fr := frozenG hg
      go_wp2_with fail
      exact bodyPost_ret (v := .tuple #[.agg #[.int .i64 0, .int .i64 0, .int .i64 0, .string ⟨#[]⟩], .bool false]) (by simp [results, Tryz.results19, go_sem, World.cell?, World.setCell, Array.getElem?_modify, hg, g0, g1, g2, g3]) rfl ⟨by rw [HF.out.1, HF.out.2.1, HF.out.2.2.1, HF.out.2.2.2.1, HF.out.2.2.2.2], (by first | exact D | exact below4 D (by omega) _ _ _ _)⟩
    | true =>
      simp only [if_true] at h0
      have HV := Lib.hid h0
      clear h0
      go_enter Tryz.func19, Tryz.ntmps19
      go_wp2_with fail
      try rw [hgg]
      with_reducible refine (MayT_is n c A l m d B s _ hl hs hz hy hn true HR).mono ?_
      rintro e w1 ⟨rfl, b1⟩
      try rw [hgg] at hb hg
      replace hl := hl.below b1
      replace hs := hs.below b1
      replace hb := hcall hb b1
      replace hg := hcall hg b1
      replace D := below_call D b1
      clear b1
      try clear z0 z1 zz
      obtain ⟨z0, z1, zz⟩ := cellsT hb
      go_wp2_with fail
      with_reducible refine (Sees8_is n c A l _ hl p q true HR2).mono ?_
      rintro e w2 ⟨rfl, b2⟩
      replace hl := hl.below b2
      replace hs := hs.below b2
      replace hb := hcall hb b2
      replace hg := hcall hg b2
      replace D := below_call D b2
      clear b2
      try clear z0 z1 zz
      obtain ⟨z0, z1, zz⟩ := cellsT hb
      go_wp2_with fail
      with_reducible refine (Of9_is m d B s _ hs q _ hm (Lib.hid rfl)).mono ?_
      rintro e w3 ⟨v, rfl, hr, b3⟩
      obtain ⟨vA, vc, rfl⟩ := form_Se hr
      replace hl := hl.below b3
      replace hs := hs.below b3
      replace hb := hcall hb b3
      replace hg := hcall hg b3
      replace D := below_call D b3
      clear b3
      try clear z0 z1 zz
      obtain ⟨z0, z1, zz⟩ := cellsT hb
      go_wp2_with fail
      with_reducible refine (bValue_calls _ vc vA _ a b_ e_ t y _ hr HV).mono ?_
      rintro e w4 ⟨rfl, b4⟩
      clear hr
      replace hl := hl.below b4
      replace hs := hs.below b4
      replace hb := hcall hb b4
      replace hg := hcall hg b4
      replace D := below_call D b4
      clear b4
      try clear z0 z1 zz
      obtain ⟨z0, z1, zz⟩ := cellsT hb
      obtain ⟨g0, g1, g2, g3, gz⟩ := cellsPv hg
      have fr := frozenG hg
      go_wp2_with fail
      exact bodyPost_ret (v := .tuple #[.agg #[.int .i64 a, .int .i64 b_, .int .i64 e_, .string t], .bool y]) (by simp [results, Tryz.results19, go_sem, World.cell?, World.setCell, Array.getElem?_modify, hg]) rfl ⟨rfl, below4 D (by omega) _ _ _ _⟩
set_option maxHeartbeats 16000000 in
set_option maxRecDepth 100000 in
theorem vWatch_is (hz : SzRo l) (hy : SzSe s) (hn : n ≤ 100000) (hm : m ≤ 100000) (q : ByteArray) (r : List ByteArray) (h : Hid (watT (l, s) q = r)) :
    Calls Tryz.prog 25 #[agT A n c B m d, .string q] w fun e w' => ∃ v, e = .returned v ∧ Row enS 1 w' v r ∧ Below w.heap.size w w' := by
  have D := below_box (w := w) (bxT A n c B m d)
  have hb := heap_alloc_new w (bxT A n c B m d)
  replace hl := hl.below D
  replace hs := hs.below D
  obtain ⟨z0, z1, zz⟩ := cellsT hb
  obtain ⟨g, hgg⟩ : ∃ g, w.heap.size = g := ⟨_, rfl⟩
  have h0 := h.out
  unfold watT at h0
  try simp only at h0
  clear h
  obtain ⟨r1, hr⟩ : ∃ r, mayT (l, s) = r := ⟨_, rfl⟩
  rw [hr] at h0
  have HR := Lib.hid hr
  clear hr
  cases r1 with
  | false =>
    simp only [Bool.false_eq_true, if_false] at h0
    have HF := Lib.hid h0
    clear h0
    go_enter Tryz.func25, Tryz.ntmps25
    go_wp2_with fail
    try rw [hgg]
    with_reducible refine (MayT_is n c A l m d B s _ hl hs hz hy hn false HR).mono ?_
    rintro e w1 ⟨rfl, b1⟩
    try rw [hgg] at hb
    replace hl := hl.below b1
    replace hs := hs.below b1
    replace hb := hcall hb b1
    replace D := below_call D b1
    clear b1
    try clear z0 z1 zz
    obtain ⟨z0, z1, zz⟩ := cellsT hb
    go_wp2
    go_ret
    rw [← HF.out]
    exact ⟨_, rfl, Row.nil _ _ _, D⟩
  | true =>
    simp only [if_true] at h0
    obtain ⟨os, hos⟩ : ∃ os, ofSe s q = os := ⟨_, rfl⟩
    rw [hos] at h0
    have HO := Lib.hid hos
    clear hos
    by_cases h1 : os.length = 0
    · rw [if_pos h1] at h0
      have HF := Lib.hid h0
      clear h0
      go_enter Tryz.func25, Tryz.ntmps25
      go_wp2_with fail
      try rw [hgg]
      with_reducible refine (MayT_is n c A l m d B s _ hl hs hz hy hn true HR).mono ?_
      rintro e w1 ⟨rfl, b1⟩
      try rw [hgg] at hb
      replace hl := hl.below b1
      replace hs := hs.below b1
      replace hb := hcall hb b1
      replace D := below_call D b1
      clear b1
      try clear z0 z1 zz
      obtain ⟨z0, z1, zz⟩ := cellsT hb
      go_wp2_with fail
      with_reducible refine (Of9_is m d B s _ hs q os hm HO).mono ?_
      rintro e w2 ⟨v, rfl, hr, b2⟩
      obtain ⟨vA, vc, rfl⟩ := form_Se hr
      clear hr
      replace hl := hl.below b2
      replace hs := hs.below b2
      replace hb := hcall hb b2
      replace D := below_call D b2
      clear b2
      try clear z0 z1 zz
      obtain ⟨z0, z1, zz⟩ := cellsT hb
      rw [h1]
      clear h1
      go_wp2
      go_ret
      rw [← HF.out]
      exact ⟨_, rfl, Row.nil _ _ _, D⟩
    · rw [if_neg h1] at h0
      have HF := Lib.hid h0
      clear h0
      go_enter Tryz.func25, Tryz.ntmps25
      go_wp2_with fail
      try rw [hgg]
      with_reducible refine (MayT_is n c A l m d B s _ hl hs hz hy hn true HR).mono ?_
      rintro e w1 ⟨rfl, b1⟩
      try rw [hgg] at hb
      replace hl := hl.below b1
      replace hs := hs.below b1
      replace hb := hcall hb b1
      replace D := below_call D b1
      clear b1
      try clear z0 z1 zz
      obtain ⟨z0, z1, zz⟩ := cellsT hb
      go_wp2_with fail
      with_reducible refine (Of9_is m d B s _ hs q os hm HO).mono ?_
      rintro e w2 ⟨v, rfl, hr, b2⟩
      obtain ⟨vA, vc, rfl⟩ := form_Se hr
      clear hr
      replace hl := hl.below b2
      replace hs := hs.below b2
      replace hb := hcall hb b2
      replace D := below_call D b2
      clear b2
      try clear z0 z1 zz
      obtain ⟨z0, z1, zz⟩ := cellsT hb
      have h2 : ((os.length : Int) == 0) = false := by rw [beq_eq_false_iff_ne]; omega
      clear h1
      go_wp2_with fail
      with_reducible refine (Watch8_is n c A l _ hl q r hn HF).mono ?_
      rintro e w3 ⟨v, rfl, hr, b3⟩
      replace hl := hl.below b3
      replace hs := hs.below b3
      replace hb := hcall hb b3
      replace D := below_call D b3
      clear b3
      try clear z0 z1 zz
      obtain ⟨z0, z1, zz⟩ := cellsT hb
      go_wp2
      go_ret
      exact ⟨v, rfl, hr, D⟩
end
end Go.Proofs.YtbpfcjdjhponaaaGreat
namespace Go.Proofs.YtbpfcjdjhponaaaGreat
namespace Sp
structure Sn where
  c : ByteArray
  v : Int × Int × Int × ByteArray
instance : DecidableEq Sn := fun a b => decidable_of_iff (a.c = b.c ∧ a.v = b.v) ⟨fun h => by cases a; cases b; simp only at h; obtain ⟨h1, h2⟩ := h; subst h1 h2; rfl, fun h => by subst h; exact ⟨rfl, rfl⟩⟩
structure Ch where
  c : ByteArray
  on : Bool
  v : Int × Int × Int × ByteArray
instance : DecidableEq Ch := fun a b => decidable_of_iff (a.c = b.c ∧ a.on = b.on ∧ a.v = b.v) ⟨fun h => by cases a; cases b; simp only at h; obtain ⟨h1, h2, h3⟩ := h; subst h1 h2 h3; rfl, fun h => by subst h; exact ⟨rfl, rfl, rfl⟩⟩
def rowOk (x : Sn) : Bool := isName x.c && mayV x.v.1 x.v.2.1 x.v.2.2.1 x.v.2.2.2
def adjT : List Sn → Bool
  | a :: b :: l => less a.c b.c && adjT (b :: l)
  | _ => true
def mayTb (l : List Sn) : Bool := decide (l.length ≤ 32) && (l.all rowOk && adjT l)
theorem adjT_iff : ∀ l : List Sn, adjT l = true ↔ ∀ i (h : i + 1 < l.length), less l[i].c l[i + 1].c = true
  | [] => by simp [adjT]
  | [a] => by simp [adjT]
  | a :: b :: l => by
    rw [adjT, Bool.and_eq_true, adjT_iff (b :: l)]
    constructor
    · rintro ⟨h1, h2⟩ i hi
      cases i with
      | zero => exact h1
      | succ i => exact h2 i (by simp only [List.length_cons] at hi ⊢; omega)
    · intro h
      exact ⟨h 0 (by simp), fun i hi => h (i + 1) (by simp only [List.length_cons] at hi ⊢; omega)⟩
theorem mayT_iff (l : List Sn) : mayTb l = true ↔ l.length ≤ 32 ∧ (∀ s ∈ l, rowOk s = true) ∧ ∀ i (h : i + 1 < l.length), less l[i].c l[i + 1].c = true := by
  unfold mayTb
  rw [Bool.and_eq_true, Bool.and_eq_true, decide_eq_true_eq, List.all_eq_true, adjT_iff]
def atT (l : List Sn) (c : ByteArray) : Nat := (l.reverse.dropWhile fun x => !less x.c c).length
def restT (l : List Sn) (c : ByteArray) : List Sn := delK Sn.c l c
def setT (l : List Sn) (x : Ch) : List Sn :=
  if x.on then (restT l x.c).take (atT (restT l x.c) x.c) ++ ⟨x.c, x.v⟩ :: (restT l x.c).drop (atT (restT l x.c) x.c) else restT l x.c
def getT (l : List Sn) (c : ByteArray) : (Int × Int × Int × ByteArray) × Bool := match getK Sn.c l c with | some x => (x.v, true) | none => ((0, 0, 0, ⟨#[]⟩), false)
def chT (a b : List Sn) (c : ByteArray) : Option Ch := if getT a c = getT b c then none else some ⟨c, (getT b c).2, (getT b c).1⟩
def namesT (a b : List Sn) : List ByteArray := mergeS (a.map Sn.c) (b.map Sn.c)
def changesT (a b : List Sn) : List Ch := (namesT a b).filterMap (chT a b)
theorem getT_some {l : List Sn} {c : ByteArray} {x : Sn} (h : getK Sn.c l c = some x) : getT l c = (x.v, true) := by unfold getT; rw [h]
theorem getT_none {l : List Sn} {c : ByteArray} (h : getK Sn.c l c = none) : getT l c = ((0, 0, 0, ⟨#[]⟩), false) := by unfold getT; rw [h]
end Sp
end Go.Proofs.YtbpfcjdjhponaaaGreat
namespace Go.Proofs.YtbpfcjdjhponaaaGreat
open Go.RowKit
open Sp
def enSn (x : Sn) : List Value := [.string x.c, .int .i64 x.v.1, .int .i64 x.v.2.1, .int .i64 x.v.2.2.1, .string x.v.2.2.2]
theorem enSn_len (x : Sn) : (enSn x).length = 5 := rfl
theorem enSn_one (x : Sn) : ∀ u ∈ enSn x, u.oneCell' = true := by intro u hu; simp only [enSn, List.mem_cons, List.mem_nil_iff, or_false] at hu; rcases hu with rfl | rfl | rfl | rfl | rfl <;> rfl
abbrev zvSn : Value := .agg #[.string ⟨#[]⟩, .int .i64 0, .int .i64 0, .int .i64 0, .string ⟨#[]⟩]
theorem infoSn : (Tryz.prog.info? 59).map (fun i => (i.zero, i.size, i.bytes)) = some (some zvSn, 5, 56) := by kernel_rfl
abbrev bxSn (a_ : ByteArray) (b_ : Int) (c_ : Int) (d_ : Int) (e_ : ByteArray) : Obj := .cells #[.string a_, .int .i64 b_, .int .i64 c_, .int .i64 d_, .string e_] 59
theorem rowSn {W : World} {A : Option Addr} {n c : Nat} {l : List Sn} (h : Row enSn 5 W (.slice A n c) l) (i : Nat) (hi : i < l.length) (a_ : ByteArray) (b_ : Int) (c_ : Int) (d_ : Int) (e_ : ByteArray) (he : l[i] = ⟨a_, b_, c_, d_, e_⟩) :
    ∃ ad, A = some ad ∧ W.cell? (ad.add (i * 5)) = some (.string a_) ∧ W.cell? ⟨(ad.add (i * 5)).block, (ad.add (i * 5)).off + 1, none⟩ = some (.int .i64 b_) ∧ W.cell? ⟨(ad.add (i * 5)).block, (ad.add (i * 5)).off + 2, none⟩ = some (.int .i64 c_) ∧ W.cell? ⟨(ad.add (i * 5)).block, (ad.add (i * 5)).off + 3, none⟩ = some (.int .i64 d_) ∧ W.cell? ⟨(ad.add (i * 5)).block, (ad.add (i * 5)).off + 4, none⟩ = some (.string e_) := by
  obtain ⟨ad, e, hc⟩ := h.get enSn_len i hi
  rw [he] at hc
  exact ⟨ad, e, hc 0 (by omega), hc 1 (by omega), hc 2 (by omega), hc 3 (by omega), hc 4 (by omega)⟩
theorem rowsSn {W : World} {ad : Addr} {n c : Nat} {l : List Sn} (h : Row enSn 5 W (.slice (some ad) n c) l) (i : Nat) (hi : i < l.length) (a_ : ByteArray) (b_ : Int) (c_ : Int) (d_ : Int) (e_ : ByteArray) (he : l[i] = ⟨a_, b_, c_, d_, e_⟩) :
    W.cell? (ad.add (i * 5)) = some (.string a_) ∧ W.cell? ⟨(ad.add (i * 5)).block, (ad.add (i * 5)).off + 1, none⟩ = some (.int .i64 b_) ∧ W.cell? ⟨(ad.add (i * 5)).block, (ad.add (i * 5)).off + 2, none⟩ = some (.int .i64 c_) ∧ W.cell? ⟨(ad.add (i * 5)).block, (ad.add (i * 5)).off + 3, none⟩ = some (.int .i64 d_) ∧ W.cell? ⟨(ad.add (i * 5)).block, (ad.add (i * 5)).off + 4, none⟩ = some (.string e_) := by
  obtain ⟨ad', e, hc⟩ := rowSn h i hi a_ b_ c_ d_ e_ he
  injection e with e
  subst e
  exact hc
theorem cellsSn {W : World} {g : Nat} (a_ : ByteArray) (b_ : Int) (c_ : Int) (d_ : Int) (e_ : ByteArray) (h : W.heap[g]? = some (bxSn a_ b_ c_ d_ e_)) :
    W.cell? ⟨g, 0, none⟩ = some (.string a_) ∧ W.cell? ⟨g, 1, none⟩ = some (.int .i64 b_) ∧ W.cell? ⟨g, 2, none⟩ = some (.int .i64 c_) ∧ W.cell? ⟨g, 3, none⟩ = some (.int .i64 d_) ∧ W.cell? ⟨g, 4, none⟩ = some (.string e_) ∧ g < W.heap.size :=
  ⟨by simp [World.cell?, h], by simp [World.cell?, h], by simp [World.cell?, h], by simp [World.cell?, h], by simp [World.cell?, h], (Array.getElem?_eq_some_iff.1 h).1⟩
set_option maxHeartbeats 8000000 in
set_option maxRecDepth 100000 in
theorem neqSn (a_ : ByteArray) (b_ : Int) (c_ : Int) (d_ : Int) (e_ : ByteArray) (a_' : ByteArray) (b_' : Int) (c_' : Int) (d_' : Int) (e_' : ByteArray) (W : World) :
    (binOp .neq 59 (.agg #[.string a_, .int .i64 b_, .int .i64 c_, .int .i64 d_, .string e_]) (.agg #[.string a_', .int .i64 b_', .int .i64 c_', .int .i64 d_', .string e_'])).run Tryz.prog W = .ok (.bool (!(a_.toList == a_'.toList && (b_ == b_' && (c_ == c_' && (d_ == d_' && (e_.toList == e_'.toList))))))) W := by
  cases h0 : a_.toList == a_'.toList
  · simp [go_sem, h0]
  cases h1 : b_ == b_'
  · simp [go_sem, h0, h1]
  cases h2 : c_ == c_'
  · simp [go_sem, h0, h1, h2]
  cases h3 : d_ == d_'
  · simp [go_sem, h0, h1, h2, h3]
  cases h4 : e_.toList == e_'.toList <;> simp [go_sem, h0, h1, h2, h3, h4]
theorem eqvSn (a_ : ByteArray) (b_ : Int) (c_ : Int) (d_ : Int) (e_ : ByteArray) (a_' : ByteArray) (b_' : Int) (c_' : Int) (d_' : Int) (e_' : ByteArray) : (a_.toList == a_'.toList && (b_ == b_' && (c_ == c_' && (d_ == d_' && (e_.toList == e_'.toList))))) = decide ((⟨a_, b_, c_, d_, e_⟩ : Sn) = ⟨a_', b_', c_', d_', e_'⟩) := by
  rw [Bool.eq_iff_iff, decide_eq_true_eq]
  simp only [Bool.and_eq_true, beq_iff_eq, toList_inj', Sn.mk.injEq, Prod.mk.injEq]
end Go.Proofs.YtbpfcjdjhponaaaGreat
namespace Go.Proofs.YtbpfcjdjhponaaaGreat
open Go.RowKit
open Sp
def enCh (x : Ch) : List Value := [.string x.c, .bool x.on, .int .i64 x.v.1, .int .i64 x.v.2.1, .int .i64 x.v.2.2.1, .string x.v.2.2.2]
theorem enCh_len (x : Ch) : (enCh x).length = 6 := rfl
theorem enCh_one (x : Ch) : ∀ u ∈ enCh x, u.oneCell' = true := by intro u hu; simp only [enCh, List.mem_cons, List.mem_nil_iff, or_false] at hu; rcases hu with rfl | rfl | rfl | rfl | rfl | rfl <;> rfl
abbrev zvCh : Value := .agg #[.string ⟨#[]⟩, .bool false, .int .i64 0, .int .i64 0, .int .i64 0, .string ⟨#[]⟩]
theorem infoCh : (Tryz.prog.info? 65).map (fun i => (i.zero, i.size, i.bytes)) = some (some zvCh, 6, 64) := by kernel_rfl
abbrev bxCh (a_ : ByteArray) (b_ : Bool) (c_ : Int) (d_ : Int) (e_ : Int) (f_ : ByteArray) : Obj := .cells #[.string a_, .bool b_, .int .i64 c_, .int .i64 d_, .int .i64 e_, .string f_] 65
theorem rowCh {W : World} {A : Option Addr} {n c : Nat} {l : List Ch} (h : Row enCh 6 W (.slice A n c) l) (i : Nat) (hi : i < l.length) (a_ : ByteArray) (b_ : Bool) (c_ : Int) (d_ : Int) (e_ : Int) (f_ : ByteArray) (he : l[i] = ⟨a_, b_, c_, d_, e_, f_⟩) :
    ∃ ad, A = some ad ∧ W.cell? (ad.add (i * 6)) = some (.string a_) ∧ W.cell? ⟨(ad.add (i * 6)).block, (ad.add (i * 6)).off + 1, none⟩ = some (.bool b_) ∧ W.cell? ⟨(ad.add (i * 6)).block, (ad.add (i * 6)).off + 2, none⟩ = some (.int .i64 c_) ∧ W.cell? ⟨(ad.add (i * 6)).block, (ad.add (i * 6)).off + 3, none⟩ = some (.int .i64 d_) ∧ W.cell? ⟨(ad.add (i * 6)).block, (ad.add (i * 6)).off + 4, none⟩ = some (.int .i64 e_) ∧ W.cell? ⟨(ad.add (i * 6)).block, (ad.add (i * 6)).off + 5, none⟩ = some (.string f_) := by
  obtain ⟨ad, e, hc⟩ := h.get enCh_len i hi
  rw [he] at hc
  exact ⟨ad, e, hc 0 (by omega), hc 1 (by omega), hc 2 (by omega), hc 3 (by omega), hc 4 (by omega), hc 5 (by omega)⟩
theorem cellsCh {W : World} {g : Nat} (a_ : ByteArray) (b_ : Bool) (c_ : Int) (d_ : Int) (e_ : Int) (f_ : ByteArray) (h : W.heap[g]? = some (bxCh a_ b_ c_ d_ e_ f_)) :
    W.cell? ⟨g, 0, none⟩ = some (.string a_) ∧ W.cell? ⟨g, 1, none⟩ = some (.bool b_) ∧ W.cell? ⟨g, 2, none⟩ = some (.int .i64 c_) ∧ W.cell? ⟨g, 3, none⟩ = some (.int .i64 d_) ∧ W.cell? ⟨g, 4, none⟩ = some (.int .i64 e_) ∧ W.cell? ⟨g, 5, none⟩ = some (.string f_) ∧ g < W.heap.size :=
  ⟨by simp [World.cell?, h], by simp [World.cell?, h], by simp [World.cell?, h], by simp [World.cell?, h], by simp [World.cell?, h], by simp [World.cell?, h], (Array.getElem?_eq_some_iff.1 h).1⟩
set_option maxHeartbeats 8000000 in
set_option maxRecDepth 100000 in
theorem neqCh (a_ : ByteArray) (b_ : Bool) (c_ : Int) (d_ : Int) (e_ : Int) (f_ : ByteArray) (a_' : ByteArray) (b_' : Bool) (c_' : Int) (d_' : Int) (e_' : Int) (f_' : ByteArray) (W : World) :
    (binOp .neq 65 (.agg #[.string a_, .bool b_, .int .i64 c_, .int .i64 d_, .int .i64 e_, .string f_]) (.agg #[.string a_', .bool b_', .int .i64 c_', .int .i64 d_', .int .i64 e_', .string f_'])).run Tryz.prog W = .ok (.bool (!(a_.toList == a_'.toList && (b_ == b_' && (c_ == c_' && (d_ == d_' && (e_ == e_' && (f_.toList == f_'.toList)))))))) W := by
  cases h0 : a_.toList == a_'.toList
  · simp [go_sem, h0]
  cases h1 : b_ == b_'
  · simp [go_sem, h0, h1]
  cases h2 : c_ == c_'
  · simp [go_sem, h0, h1, h2]
  cases h3 : d_ == d_'
  · simp [go_sem, h0, h1, h2, h3]
  cases h4 : e_ == e_'
  · simp [go_sem, h0, h1, h2, h3, h4]
  cases h5 : f_.toList == f_'.toList <;> simp [go_sem, h0, h1, h2, h3, h4, h5]
theorem eqvCh (a_ : ByteArray) (b_ : Bool) (c_ : Int) (d_ : Int) (e_ : Int) (f_ : ByteArray) (a_' : ByteArray) (b_' : Bool) (c_' : Int) (d_' : Int) (e_' : Int) (f_' : ByteArray) : (a_.toList == a_'.toList && (b_ == b_' && (c_ == c_' && (d_ == d_' && (e_ == e_' && (f_.toList == f_'.toList)))))) = decide ((⟨a_, b_, c_, d_, e_, f_⟩ : Ch) = ⟨a_', b_', c_', d_', e_', f_'⟩) := by
  rw [Bool.eq_iff_iff, decide_eq_true_eq]
  simp only [Bool.and_eq_true, beq_iff_eq, toList_inj', Ch.mk.injEq, Prod.mk.injEq]
end Go.Proofs.YtbpfcjdjhponaaaGreat
namespace Go.Proofs.YtbpfcjdjhponaaaGreat
open Go.RowKit
open Sp
set_option maxHeartbeats 8000000 in
set_option maxRecDepth 100000 in
theorem sameSn (n c n2 c2 : Nat) (A B : Option Addr) (l m : List Sn) (w : World) (hl : Row enSn 5 w (.slice A n c) l) (hm : Row enSn 5 w (.slice B n2 c2) m) :
    Calls Tryz.prog 21 #[.slice A n c, .slice B n2 c2] w fun e w' => e = .returned (.bool (decide (l = m))) ∧ Below w.heap.size w w' := by
  have EA := Lib.hid hl.len_eq
  have EB := Lib.hid hm.len_eq
  have hnl : n ≤ 9223372036854775807 := by rw [EA.out]; exact hl.len
  obtain ⟨r, hr⟩ : ∃ r, decide (l = m) = r := ⟨_, rfl⟩
  rw [hr]
  have HR := Lib.hid hr
  clear hr
  by_cases hn : n = n2
  · subst hn
    go_enter Tryz.func21, Tryz.ntmps21
    go_wp2
    go_loopw [5] (fun v5 wr => ∃ i : Nat, v5 = .int .i64 i ∧ i ≤ n ∧ Below w.heap.size w wr ∧ Hid (l.take i = m.take i)) (fun v5 _ => (n - intOf v5).toNat)
    case atStart => exact ⟨0, rfl, Nat.zero_le _, Below.refl _ _, rfl⟩
    case round =>
      obtain ⟨i, rfl, hi, hB, HT⟩ := hrel
      by_cases hlt : i < n
      · have hil : i < l.length := by have := EA.out; omega
        have him : i < m.length := by have := EB.out; omega
        obtain ⟨⟨a_, b_, c_, d_, e_⟩, he⟩ : ∃ e, l[i] = e := ⟨_, rfl⟩
        obtain ⟨⟨a_', b_', c_', d_', e_'⟩, he'⟩ : ∃ e, m[i] = e := ⟨_, rfl⟩
        obtain ⟨ad, rfl, c0, c1, c2, c3, c4⟩ := rowSn (hl.below hB) i hil a_ b_ c_ d_ e_ he
        obtain ⟨bd, rfl, d0, d1, d2, d3, d4⟩ := rowSn (hm.below hB) i him a_' b_' c_' d_' e_' he'
        have HE := Lib.hid he
        have HE' := Lib.hid he'
        clear he he'
        have x1 : (0 : Int) ≤ (i : Int) := by omega
        have x2 : (i : Int) < (n : Int) := by omega
        have hcmp := neqSn a_ b_ c_ d_ e_ a_' b_' c_' d_' e_'
        rw [eqvSn] at hcmp
        obtain ⟨b, hb⟩ : ∃ b, decide ((⟨a_, b_, c_, d_, e_⟩ : Sn) = ⟨a_', b_', c_', d_', e_'⟩) = b := ⟨_, rfl⟩
        rw [hb] at hcmp
        have HB := Lib.hid hb
        clear hb
        cases b with
        | true =>
          have HEQ : Hid (l[i] = m[i]) := by show _ = _; rw [HE.out, HE'.out]; exact of_decide_eq_true HB.out
          go_wp2_with fail
          go_region
          have hB1 : Below w.heap.size w wr.drew := hB.drew
          go_wp2
          exact ⟨⟨i + 1, by go_num, by omega, hB1, by show _ = _; rw [List.take_succ_eq_append_getElem hil, List.take_succ_eq_append_getElem him, HT.out, HEQ.out]⟩, by simp [intOf]; omega⟩
        | false =>
          have HNE : Hid (r = false) := by
            show _ = _
            rw [← HR.out]
            refine decide_eq_false fun h => ?_
            subst h
            exact of_decide_eq_false HB.out (by rw [← HE.out, ← HE'.out])
          go_wp2_with fail
          go_region
          have hB1 : Below w.heap.size w wr.drew := hB.drew
          go_wp2
          go_ret
          rw [HNE.out]
          exact ⟨rfl, hB1⟩
      · have hin : i = n := by omega
        subst hin
        have HEQ : Hid (r = true) := by
          show _ = _
          rw [← HR.out]
          have h1 : l.take i = l := List.take_of_length_le (by rw [EA.out]; exact Nat.le_refl _)
          have h2 : m.take i = m := List.take_of_length_le (by rw [EB.out]; exact Nat.le_refl _)
          refine decide_eq_true ?_
          rw [← h1, ← h2]; exact HT.out
        go_wp2
        go_ret
        rw [HEQ.out]
        exact ⟨rfl, hB⟩
  · have HNE : Hid (r = false) := by
      show _ = _
      rw [← HR.out]
      refine decide_eq_false fun h => ?_
      have h1 := EA.out
      have h2 := EB.out
      rw [h] at h1
      omega
    have hnb : ((n : Int) == (n2 : Int)) = false := by simpa using (by omega : ¬ (n : Int) = n2)
    clear hn
    go_enter Tryz.func21, Tryz.ntmps21
    go_wp2
    go_ret
    rw [HNE.out]
    exact ⟨rfl, Below.refl _ _⟩
set_option maxHeartbeats 8000000 in
set_option maxRecDepth 100000 in
theorem sameCh (n c n2 c2 : Nat) (A B : Option Addr) (l m : List Ch) (w : World) (hl : Row enCh 6 w (.slice A n c) l) (hm : Row enCh 6 w (.slice B n2 c2) m) :
    Calls Tryz.prog 27 #[.slice A n c, .slice B n2 c2] w fun e w' => e = .returned (.bool (decide (l = m))) ∧ Below w.heap.size w w' := by
  have EA := Lib.hid hl.len_eq
  have EB := Lib.hid hm.len_eq
  have hnl : n ≤ 9223372036854775807 := by rw [EA.out]; exact hl.len
  obtain ⟨r, hr⟩ : ∃ r, decide (l = m) = r := ⟨_, rfl⟩
  rw [hr]
  have HR := Lib.hid hr
  clear hr
  by_cases hn : n = n2
  · subst hn
    go_enter Tryz.func27, Tryz.ntmps27
    go_wp2
    go_loopw [5] (fun v5 wr => ∃ i : Nat, v5 = .int .i64 i ∧ i ≤ n ∧ Below w.heap.size w wr ∧ Hid (l.take i = m.take i)) (fun v5 _ => (n - intOf v5).toNat)
    case atStart => exact ⟨0, rfl, Nat.zero_le _, Below.refl _ _, rfl⟩
    case round =>
      obtain ⟨i, rfl, hi, hB, HT⟩ := hrel
      by_cases hlt : i < n
      · have hil : i < l.length := by have := EA.out; omega
        have him : i < m.length := by have := EB.out; omega
        obtain ⟨⟨a_, b_, c_, d_, e_, f_⟩, he⟩ : ∃ e, l[i] = e := ⟨_, rfl⟩
        obtain ⟨⟨a_', b_', c_', d_', e_', f_'⟩, he'⟩ : ∃ e, m[i] = e := ⟨_, rfl⟩
        obtain ⟨ad, rfl, c0, c1, c2, c3, c4, c5⟩ := rowCh (hl.below hB) i hil a_ b_ c_ d_ e_ f_ he
        obtain ⟨bd, rfl, d0, d1, d2, d3, d4, d5⟩ := rowCh (hm.below hB) i him a_' b_' c_' d_' e_' f_' he'
        have HE := Lib.hid he
        have HE' := Lib.hid he'
        clear he he'
        have x1 : (0 : Int) ≤ (i : Int) := by omega
        have x2 : (i : Int) < (n : Int) := by omega
        have hcmp := neqCh a_ b_ c_ d_ e_ f_ a_' b_' c_' d_' e_' f_'
        rw [eqvCh] at hcmp
        obtain ⟨b, hb⟩ : ∃ b, decide ((⟨a_, b_, c_, d_, e_, f_⟩ : Ch) = ⟨a_', b_', c_', d_', e_', f_'⟩) = b := ⟨_, rfl⟩
        rw [hb] at hcmp
        have HB := Lib.hid hb
        clear hb
        cases b with
        | true =>
          have HEQ : Hid (l[i] = m[i]) := by show _ = _; rw [HE.out, HE'.out]; exact of_decide_eq_true HB.out
          go_wp2_with fail
          go_region
          have hB1 : Below w.heap.size w wr.drew := hB.drew
          go_wp2
          exact ⟨⟨i + 1, by go_num, by omega, hB1, by show _ = _; rw [List.take_succ_eq_append_getElem hil, List.take_succ_eq_append_getElem him, HT.out, HEQ.out]⟩, by simp [intOf]; omega⟩
        | false =>
          have HNE : Hid (r = false) := by
            show _ = _
            rw [← HR.out]
            refine decide_eq_false fun h => ?_
            subst h
            exact of_decide_eq_false HB.out (by rw [← HE.out, ← HE'.out])
          go_wp2_with fail
          go_region
          have hB1 : Below w.heap.size w wr.drew := hB.drew
          go_wp2
          go_ret
          rw [HNE.out]
          exact ⟨rfl, hB1⟩
      · have hin : i = n := by omega
        subst hin
        have HEQ : Hid (r = true) := by
          show _ = _
          rw [← HR.out]
          have h1 : l.take i = l := List.take_of_length_le (by rw [EA.out]; exact Nat.le_refl _)
          have h2 : m.take i = m := List.take_of_length_le (by rw [EB.out]; exact Nat.le_refl _)
          refine decide_eq_true ?_
          rw [← h1, ← h2]; exact HT.out
        go_wp2
        go_ret
        rw [HEQ.out]
        exact ⟨rfl, hB⟩
  · have HNE : Hid (r = false) := by
      show _ = _
      rw [← HR.out]
      refine decide_eq_false fun h => ?_
      have h1 := EA.out
      have h2 := EB.out
      rw [h] at h1
      omega
    have hnb : ((n : Int) == (n2 : Int)) = false := by simpa using (by omega : ¬ (n : Int) = n2)
    clear hn
    go_enter Tryz.func27, Tryz.ntmps27
    go_wp2
    go_ret
    rw [HNE.out]
    exact ⟨rfl, Below.refl _ _⟩
end Go.Proofs.YtbpfcjdjhponaaaGreat
namespace Go.Proofs.YtbpfcjdjhponaaaGreat
open Go.RowKit
open Sp
namespace Sp
theorem getT_at (l : List Sn) (q : ByteArray) (i : Nat) (hi : i < l.length) (h : ∀ j (hj : j < l.length), j < i → l[j].c ≠ q) (hq : l[i].c = q) : getT l q = (l[i].v, true) := by
  have e : getK Sn.c l q = some l[i] := by
    unfold getK
    rw [List.find?_eq_some_iff_getElem]
    exact ⟨decide_eq_true hq, i, hi, rfl, fun j hj => by simpa using h j (by omega) hj⟩
  unfold getT
  rw [e]
theorem getT_no (l : List Sn) (q : ByteArray) (h : ∀ j (hj : j < l.length), l[j].c ≠ q) : getT l q = ((0, 0, 0, ⟨#[]⟩), false) := by
  have e : getK Sn.c l q = none := by
    unfold getK
    rw [List.find?_eq_none]
    intro x hx
    obtain ⟨j, hj, rfl⟩ := List.getElem_of_mem hx
    simpa using h j hj
  unfold getT
  rw [e]
end Sp
theorem bodyPost_vt {P : Program} {fn : Func} {R : Ending → World → Prop} {a : Act} {w : World} {p u : Tmp} {ty : TypeId} (h : fn.results = #[.cell p ty, .tmp u]) (g : Nat) (t : TypeId) (cs : Array Value) (fr : Nat × Nat) (d : TypeDesc)
    (hp : a.tmps.getD p undef = .pointer (some ⟨g, 0, none⟩)) (hg : w.heap[g]? = some (.cells cs t fr))
    (hu : P.underlying ty = some d) (hd : (match d with | .struct _ | .array _ _ => true | _ => false) = true) (hi : (P.info? ty).map (·.size) = some cs.size)
    (hde : a.defers = []) (hR : R (.returned (.tuple #[.agg cs, a.tmps.getD u undef])) w) : bodyPost P fn R .ret a w := by
  refine bodyPost_ret ?_ hde hR
  have hp' : a.tmps[p]?.getD undef = .pointer (some ⟨g, 0, none⟩) := by simpa using hp
  simp [results, h, hp', asAddr, run_loadVar_row w g t ty cs fr d hg hu hd hi]
abbrev bxV (a p n : Int) (t : ByteArray) : Obj := .cells #[.int .i64 a, .int .i64 p, .int .i64 n, .string t] 27
theorem vopen {W : World} {g : Nat} {a p n : Int} {t : ByteArray} (h : W.heap[g]? = some (bxV a p n t)) : (W.cell? ⟨g, 0, none⟩ = some (.int .i64 a) ∧ W.cell? ⟨g, 1, none⟩ = some (.int .i64 p) ∧ W.cell? ⟨g, 2, none⟩ = some (.int .i64 n) ∧ W.cell? ⟨g, 3, none⟩ = some (.string t)) ∧
    (W.frozen? ⟨g, 0, none⟩ = false ∧ W.frozen? ⟨g, 1, none⟩ = false ∧ W.frozen? ⟨g, 2, none⟩ = false ∧ W.frozen? ⟨g, 3, none⟩ = false) ∧ g < W.heap.size :=
  ⟨⟨by simp [World.cell?, h], by simp [World.cell?, h], by simp [World.cell?, h], by simp [World.cell?, h]⟩, ⟨by simp [World.frozen?, h], by simp [World.frozen?, h], by simp [World.frozen?, h], by simp [World.frozen?, h]⟩, (Array.getElem?_eq_some_iff.1 h).1⟩
set_option maxHeartbeats 8000000 in
set_option maxRecDepth 100000 in
theorem contactsT_calls (n c : Nat) (A : Option Addr) (l : List Sn)  (w : World) (hl : Row enSn 5 w (.slice A n c) l) (hn : n ≤ 100000) :
    Calls Tryz.prog 120 #[.slice A n c] w fun e w' => ∃ v, e = .returned v ∧ Own enS 1 9 w' w.heap.size v (l.map Sn.c) ∧ Below w.heap.size w w' := by
  have EA := Lib.hid hl.len_eq
  go_enter Tryz.func120, Tryz.ntmps120
  go_wp2
  go_loopw [3, 8] (fun vo vc wr => ∃ (i : Nat) (ys : List ByteArray), vc = .int .i64 i ∧ i ≤ n ∧ ys.length ≤ i ∧ Hid (((l.take i).map Sn.c) = ys) ∧ Own enS 1 9 wr w.heap.size vo ys ∧ Below w.heap.size w wr) (fun _ vc _ => (n - intOf vc).toNat)
  case atStart => exact ⟨0, [], rfl, Nat.zero_le _, Nat.le_refl _, rfl, Own.nil _ _ _ _ _, Below.refl _ _⟩
  case round =>
    obtain ⟨i, ys, rfl, hi, hys, HT, hO, hB⟩ := hrel
    by_cases hlt : i < n
    · have hil : i < l.length := by have := EA.out; omega
      obtain ⟨⟨a_, b_, c_, d_, e_⟩, he⟩ : ∃ e, l[i] = e := ⟨_, rfl⟩
      obtain ⟨ad, rfl, c0, c1, c2, c3, c4⟩ := rowSn (hl.below hB) i hil a_ b_ c_ d_ e_ he
      have HE := Lib.hid he
      clear he
      have HT2 : Hid (((l.take (i + 1)).map Sn.c) = ys ++ [a_]) := by
        show _ = _
        rw [List.take_succ_eq_append_getElem hil, HE.out, List.map_append, HT.out]
        rfl
      have hO1 := hO.alloc (bxSn a_ b_ c_ d_ e_)
      have hB1 := below_alloc0 hB (bxSn a_ b_ c_ d_ e_)
      have HZ1 : Hid ((wr.alloc (bxSn a_ b_ c_ d_ e_)).heap.size = wr.heap.size + 1) := size_alloc _ _
      go_wp2_with (at_builtin; refine Own.append (w0 := w) w.heap.size rfl (.tmp 12) (.tmp 15) 51 9 (.string ⟨#[]⟩) 1 16 rfl Tryz.underlying51 info_str rfl (by decide) _ ys a_ [.string a_] rfl (by rw [HZ1.out]; rfl) rfl rfl (enS_one _) hO1 hB1 hB1.size (by omega) (by omega) ?_; intro v2 w2 hO2 hB2 _ _)
      exact ⟨⟨i + 1, ys ++ [a_], by go_num, by omega, by rw [List.length_append]; simp only [List.length_cons, List.length_nil]; omega, HT2, hO2, hB2⟩, by simp [intOf]; omega⟩
    · have hin : i = n := by omega
      subst hin
      have HF : Hid ((l.map Sn.c) = ys) := by
        show _ = _
        have := HT.out
        rwa [List.take_of_length_le (by rw [EA.out]; exact Nat.le_refl _)] at this
      go_wp2
      go_ret
      rw [HF.out]
      exact ⟨_, rfl, hO, hB⟩
set_option maxHeartbeats 8000000 in
set_option maxRecDepth 100000 in
theorem GetT_calls (n c : Nat) (A : Option Addr) (l : List Sn) (q : ByteArray) (w : World) (hl : Row enSn 5 w (.slice A n c) l) :
    Calls Tryz.prog 31 #[.slice A n c, .string q] w fun e w' => e = .returned (.tuple #[encV (getT l q).1, .bool (getT l q).2]) ∧ Below w.heap.size w w' := by
  have EA := Lib.hid hl.len_eq
  have hnl : n ≤ 9223372036854775807 := by rw [EA.out]; exact hl.len
  go_enter Tryz.func31, Tryz.ntmps31
  go_wp2
  go_loopw [10] (fun vc wr => ∃ (i : Nat), vc = .int .i64 i ∧ i ≤ n ∧ Below w.heap.size w wr ∧ wr.heap[w.heap.size]? = some (bxV 0 0 0 ⟨#[]⟩) ∧ Hid (∀ j (h : j < l.length), j < i → l[j].c ≠ q)) (fun vc _ => (n - intOf vc).toNat)
  case atStart => exact ⟨0, rfl, Nat.zero_le _, below_box _, heap_alloc_new w _, fun j _ h => absurd h (by omega)⟩
  case round =>
    obtain ⟨i, rfl, hi, hB, HX, HT⟩ := hrel
    by_cases hlt : i < n
    · have hil : i < l.length := by have := EA.out; omega
      obtain ⟨⟨a_, b_, c_, d_, e_⟩, he⟩ : ∃ e, l[i] = e := ⟨_, rfl⟩
      obtain ⟨ad, rfl, c0, c1, c2, c3, c4⟩ := rowSn (hl.below hB) i hil a_ b_ c_ d_ e_ he
      have HX1 := halloc HX (bxSn a_ b_ c_ d_ e_)
      have hB1 := below_alloc0 hB (bxSn a_ b_ c_ d_ e_)
      by_cases hq : a_ = q
      · have HF : Hid (getT l q = ((b_, c_, d_, e_), true)) := by
          show _ = _
          rw [getT_at l q i hil HT.out (by rw [he]; exact hq), he]
        clear he HT
        replace hq := hq.symm
        subst hq
        obtain ⟨⟨o0, o1, o2, o3⟩, ⟨f0, f1, f2, f3⟩, og⟩ := vopen HX1
        go_wp2
        (try simp only [Exit.inBlock, Exit.then])
        refine bodyPost_vt rfl w.heap.size 27 #[.int .i64 b_, .int .i64 c_, .int .i64 d_, .string e_] (0, 0) _ rfl ?_ Tryz.underlying27 rfl info_val rfl ⟨?_, ?_⟩
        · simp [World.setCell, Array.getElem?_modify, HX1]
        · rw [HF.out]; rfl
        · exact (((hB1.setCell (p := ⟨w.heap.size, 0, none⟩) (Nat.le_refl _) _).setCell (p := ⟨w.heap.size, 1, none⟩) (Nat.le_refl _) _).setCell (p := ⟨w.heap.size, 2, none⟩) (Nat.le_refl _) _).setCell (p := ⟨w.heap.size, 3, none⟩) (Nat.le_refl _) _
      · have HN : Hid (∀ j (h : j < l.length), j < i + 1 → l[j].c ≠ q) := fun j h hj => by
          rcases Nat.lt_or_ge j i with h' | h'
          · exact HT.out j h h'
          · obtain rfl : j = i := by omega
            rw [he]; exact hq
        have hne2 : (a_.toList == q.toList) = false := by simpa [toList_inj'] using hq
        have hne3 : ¬ a_.toList = q.toList := by simpa [toList_inj'] using hq
        clear hq he
        go_wp2
        exact ⟨⟨i + 1, by go_num, by omega, hB1, HX1, HN⟩, by simp [intOf]; omega⟩
    · have hin : i = n := by omega
      subst hin
      have HF : Hid (getT l q = ((0, 0, 0, ⟨#[]⟩), false)) := by
        show _ = _
        exact getT_no l q fun j hj => HT.out j hj (by rw [EA.out]; exact hj)
      have HX1 := HX
      have hB1 := hB
      clear HT
      obtain ⟨⟨o0, o1, o2, o3⟩, ⟨f0, f1, f2, f3⟩, og⟩ := vopen HX1
      go_wp2
      (try simp only [Exit.inBlock, Exit.then])
      refine bodyPost_vt rfl w.heap.size 27 #[.int .i64 0, .int .i64 0, .int .i64 0, .string ⟨#[]⟩] (0, 0) _ rfl ?_ Tryz.underlying27 rfl info_val rfl ⟨?_, ?_⟩
      · simp [World.setCell, Array.getElem?_modify, HX1]
      · rw [HF.out]; rfl
      · exact (((hB1.setCell (p := ⟨w.heap.size, 0, none⟩) (Nat.le_refl _) _).setCell (p := ⟨w.heap.size, 1, none⟩) (Nat.le_refl _) _).setCell (p := ⟨w.heap.size, 2, none⟩) (Nat.le_refl _) _).setCell (p := ⟨w.heap.size, 3, none⟩) (Nat.le_refl _) _
end Go.Proofs.YtbpfcjdjhponaaaGreat
