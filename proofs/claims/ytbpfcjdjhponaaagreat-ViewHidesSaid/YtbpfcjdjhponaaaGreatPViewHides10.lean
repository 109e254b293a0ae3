import Derived.Deep.QuietTactic
import Derived.BigQuiet
import Derived.Test.YtbpfcjdjhponaaaGreatPViewHides09
set_option linter.unusedVariables false
set_option linter.unusedSimpArgs false
namespace Go.Proofs.YtbpfcjdjhponaaaGreat
open Go.RowKit
open Sp
namespace Sp
theorem atSe_is {l : List Se} {s : Se} {i : Nat} (hi : i ≤ l.length) (h : ∀ j (h : j < l.length), j < i → ltSe (keySe l[j]) (keySe s) = true) (he : ∀ h : i < l.length, ltSe (keySe l[i]) (keySe s) = false) : atSe l s = i := by
  unfold atSe
  have h1 : l = l.take i ++ l.drop i := (List.take_append_drop i l).symm
  conv => lhs; arg 1; arg 2; rw [h1]
  rw [List.takeWhile_append_of_pos]
  · rw [List.length_append, List.length_take]
    have : (l.drop i).takeWhile (fun x => ltSe (keySe x) (keySe s)) = [] := by
      rcases Nat.lt_or_ge i l.length with h2 | h2
      · rw [← List.getElem_cons_drop h2, List.takeWhile_cons, if_neg (by rw [he h2]; decide)]
      · rw [List.drop_eq_nil_of_le h2]; rfl
    rw [this, List.length_nil]
    omega
  · intro x hx
    obtain ⟨j, hj, rfl⟩ := List.getElem_of_mem hx
    rw [List.length_take] at hj
    rw [List.getElem_take]
    exact h j (by omega) (by omega)
theorem putSe_no {l : List Se} {s : Se} (h : maySe l = false ∨ oneS s = false) : putSe l s = (l, 1) := by
  unfold putSe
  rw [if_pos (by rcases h with h | h <;> rw [h] <;> simp)]
theorem putSe_at {l : List Se} {s : Se} {i : Nat} (h1 : maySe l = true) (h2 : oneS s = true) (h : idxSe l (keySe s) = some i) : putSe l s = (l.set i s, 0) := by
  unfold putSe
  rw [if_neg (by rw [h1, h2]; decide), h]
theorem putSe_full {l : List Se} {s : Se} (h1 : maySe l = true) (h2 : oneS s = true) (h : idxSe l (keySe s) = none) (hl : l.length = 32) : putSe l s = (l, 5) := by
  unfold putSe
  rw [if_neg (by rw [h1, h2]; decide), h]
  simp only
  rw [if_pos hl]
theorem putSe_new {l : List Se} {s : Se} (h1 : maySe l = true) (h2 : oneS s = true) (h : idxSe l (keySe s) = none) (hl : l.length ≠ 32) : putSe l s = (l.take (atSe l s) ++ s :: l.drop (atSe l s), 0) := by
  unfold putSe
  rw [if_neg (by rw [h1, h2]; decide), h]
  simp only
  rw [if_neg hl]
theorem dropSe_no {l : List Se} {k : SeK} (h : maySe l = false) : dropSe l k = (l, 1) := by unfold dropSe; rw [if_pos h]
theorem dropSe_at {l : List Se} {k : SeK} {i : Nat} (h1 : maySe l = true) (h : idxSe l k = some i) : dropSe l k = (l.take i ++ l.drop (i + 1), 0) := by
  unfold dropSe
  rw [if_neg (by rw [h1]; decide), h]
theorem dropSe_none {l : List Se} {k : SeK} (h1 : maySe l = true) (h : idxSe l k = none) : dropSe l k = (l, 6) := by
  unfold dropSe
  rw [if_neg (by rw [h1]; decide), h]
end Sp
theorem Own.lt {α : Type} {enc : α → List Value} {k : Nat} {e : TypeId} {w : World} {base : Nat} {v : Value} {xs : List α} (h : Own enc k e w base v xs) (g : Nat) (hg : v.ownBlock = some g) : g < w.heap.size := (World.ownsRow.lt h g hg).2
theorem Own.at0 {α : Type} {enc : α → List Value} {k : Nat} {e : TypeId} {w : World} {base : Nat} {A : Option Addr} {n c : Nat} {xs : List α} (h : Own enc k e w base (.slice A n c) xs) (hp : 0 < xs.length) : ∃ b, A = some ⟨b, 0, none⟩ ∧ base ≤ b ∧ b < w.heap.size := by
  rcases h.2 with ⟨_, h0⟩ | ⟨b, c', cur, he, hb, hc, _⟩
  · omega
  · injection he with e1
    exact ⟨b, e1, hb, (Array.getElem?_eq_some_iff.1 hc).1⟩
set_option maxHeartbeats 32000000 in
set_option maxRecDepth 100000 in
theorem Put9_calls (n c : Nat) (A : Option Addr) (l : List Se) (u : ByteArray) (i_ a p n_ : Int) (t : ByteArray) (w : World) (hl : Row enSe 6 w (.slice A n c) l) (hz : SzSe l) (hu : u.size ≤ 140737488351232) (ht : t.size ≤ 140737488351232) :
    Calls Tryz.prog 57 #[.slice A n c, ag6 u i_ a p n_ t] w fun e w' => ∃ v, e = .returned (.tuple #[v, .int .i64 (putSe l ⟨u, i_, a, p, n_, t⟩).2]) ∧ Row enSe 6 w' v (putSe l ⟨u, i_, a, p, n_, t⟩).1 ∧ Below w.heap.size w w' ∧ (v = .slice A n c ∨ ∀ g, v.ownBlock = some g → w.heap.size ≤ g) := by
  have EA := Lib.hid hl.len_eq
  obtain ⟨r, er, hr⟩ : ∃ r er, putSe l ⟨u, i_, a, p, n_, t⟩ = (r, er) := ⟨_, _, rfl⟩
  rw [hr]
  have HR := Lib.hid hr
  clear hr
  have hBx := below_box (w := w) (bxSe u i_ a p n_ t)
  have hbox := heap_alloc_new w (bxSe u i_ a p n_ t)
  obtain ⟨m, hm⟩ : ∃ m, maySe l = m := ⟨_, rfl⟩
  have HM := Lib.hid hm
  have HC := re_ (May9_calls n c A l _ (hl.below hBx) hz) (ret_bool HM.out)
  cases m with
  | false =>
    have HF : Hid (r = l ∧ er = 1) := by
      have := HR.out
      rw [putSe_no (.inl hm)] at this
      injection this with h1 h2
      exact ⟨h1.symm, h2.symm⟩
    clear hm
    go_enter Tryz.func57, Tryz.ntmps57
    go_wp2_with fail
    refine HC.mono ?_
    rintro e w1 ⟨rfl, b1⟩
    have B1 := below_call hBx b1
    go_wp2
    go_ret2
    rw [HF.out.1, HF.out.2]
    exact ⟨_, rfl, hl.below B1, B1, .inl rfl⟩
  | true =>
  obtain ⟨o, ho⟩ : ∃ o, oneS ⟨u, i_, a, p, n_, t⟩ = o := ⟨_, rfl⟩
  have HO := Lib.hid ho
  cases o with
  | false =>
    have HF : Hid (r = l ∧ er = 1) := by
      have := HR.out
      rw [putSe_no (.inr ho)] at this
      injection this with h1 h2
      exact ⟨h1.symm, h2.symm⟩
    clear hm ho
    go_enter Tryz.func57, Tryz.ntmps57
    go_wp2_with fail
    refine HC.mono ?_
    rintro e w1 ⟨rfl, b1⟩
    have B1 := below_call hBx b1
    obtain ⟨s0, s1, s2, s3, s4, s5, sz⟩ := cellsSe u i_ a p n_ t (hcall hbox b1)
    clear b1
    go_wp2_with fail
    refine (re_ (oddS_calls u i_ a p n_ t _ hu ht) (ret_bool (by rw [HO.out]))).mono ?_
    rintro e w2 ⟨rfl, b2⟩
    have B2 := below_call B1 b2
    clear s0 s1 s2 s3 s4 s5 sz b2 B1
    go_wp2
    go_ret2
    rw [HF.out.1, HF.out.2]
    exact ⟨_, rfl, hl.below B2, B2, .inl rfl⟩
  | true =>
  have h32 := ((maySe_iff l).1 hm).1
  have hn32 : n ≤ 32 := by have := EA.out; omega
  obtain ⟨ix, hix⟩ : ∃ ix, idxSe l (u, i_) = ix := ⟨_, rfl⟩
  have hks : keySe ⟨u, i_, a, p, n_, t⟩ = (u, i_) := rfl
  cases ix with
  | some i =>
    obtain ⟨hil, -⟩ := idxSe_some hix
    have HF : Hid (r = l.set i ⟨u, i_, a, p, n_, t⟩ ∧ er = 0) := by
      have := HR.out
      rw [putSe_at hm ho (by rw [hks]; exact hix)] at this
      injection this with h1 h2
      exact ⟨h1.symm, h2.symm⟩
    have HIX : Hid (idxI (idxSe l (u, i_)) = (i : Int)) := by show _ = _; rw [hix]; rfl
    have x1 : (0 : Int) ≤ (i : Int) := by omega
    have x2 : (i : Int) < (n : Int) := by have := EA.out; omega
    have HIL := Lib.hid hil
    clear hm ho hix hks h32 hil
    go_enter Tryz.func57, Tryz.ntmps57
    go_wp2_with fail
    refine HC.mono ?_
    rintro e w1 ⟨rfl, b1⟩
    have B1 := below_call hBx b1
    have hb1 := hcall hbox b1
    obtain ⟨s0, s1, s2, s3, s4, s5, sz⟩ := cellsSe u i_ a p n_ t hb1
    clear b1 hbox
    go_wp2_with fail
    refine (re_ (oddS_calls u i_ a p n_ t _ hu ht) (ret_bool (by rw [HO.out]))).mono ?_
    rintro e w2 ⟨rfl, b2⟩
    have B2 := below_call B1 b2
    have hb2 := hcall hb1 b2
    clear s0 s1 s2 s3 s4 s5 sz b2 B1 hb1
    go_wp2_with fail
    refine (cloneSe_calls n c A l _ (hl.below B2) (by omega)).mono ?_
    rintro e w3 ⟨v3, rfl, hO3, b3⟩
    have B3 := below_call B2 b3
    have hb3 := hcall hb2 b3
    obtain ⟨A3, c3, hv3, hc3⟩ := hO3.slice
    rw [← EA.out] at hv3
    subst hv3
    obtain ⟨b, rfl, hbb, _⟩ := hO3.at0 (by have := HIL.out; omega)
    replace hO3 := hO3.lower (base' := w.heap.size) (by have := B2.size; omega)
    obtain ⟨s0, s1, s2, s3, s4, s5, sz⟩ := cellsSe u i_ a p n_ t hb3
    clear b3 B2 hb2 hc3
    go_wp2_with fail
    refine (of_calls u i_ a p n_ t _).mono ?_
    rintro e w4 ⟨rfl, b4⟩
    have B4 := below_call B3 b4
    have hb4 := hcall hb3 b4
    have hO4 := hO3.below b4
    clear s0 s1 s2 s3 s4 s5 sz b4 B3 hb3 hO3
    go_wp2_with fail
    refine (re_ (find_calls n c A l u i_ _ (hl.below B4)) (by rw [HIX.out, decide_eq_true x1])).mono ?_
    rintro e w5 ⟨rfl, b5⟩
    have B5 := below_call B4 b5
    have hb5 := hcall hb4 b5
    have hO5 := hO4.below b5
    obtain ⟨s0, s1, s2, s3, s4, s5, sz⟩ := cellsSe u i_ a p n_ t hb5
    clear b5 B4 hb4 hO4
    go_wp2_with (with_reducible refine Own.store rfl 99 (.tmp 31) (.tmp 30) rfl szSe b n c3 i l ⟨u, i_, a, p, n_, t⟩ hO5 enSe_len (enSe_one _) HIL.out rfl (enSe ⟨u, i_, a, p, n_, t⟩) rfl rfl B5 ?_; intro w6 hO6 hB6 hz6 ho6)
    go_ret2
    rw [HF.out.1, HF.out.2]
    exact ⟨_, rfl, hO6.row, hB6, .inr fun g hg => by first | exact hO6.base_le g hg | exact Nat.le_trans (Below.size (by assumption)) (hO6.base_le g hg) | exact Nat.le_trans hBx.size (hO6.base_le g hg)⟩
  | none =>
    have HIX : Hid (idxI (idxSe l (u, i_)) = -1) := by show _ = _; rw [hix]; rfl
    have hpre : ∀ (Q : Exit → Act → World → Prop), True := fun _ => trivial
    clear hpre
    by_cases hfull : n = 32
    · have HF : Hid (r = l ∧ er = 5) := by
        have := HR.out
        rw [putSe_full hm ho (by rw [hks]; exact hix) (by rw [← EA.out]; exact hfull)] at this
        injection this with h1 h2
        exact ⟨h1.symm, h2.symm⟩
      have hnb : ((n : Int) == 32) = true := by rw [hfull]; rfl
      clear hm ho hix hks h32 hfull
      go_enter Tryz.func57, Tryz.ntmps57
      go_wp2_with fail
      refine HC.mono ?_
      rintro e w1 ⟨rfl, b1⟩
      have B1 := below_call hBx b1
      have hb1 := hcall hbox b1
      obtain ⟨s0, s1, s2, s3, s4, s5, sz⟩ := cellsSe u i_ a p n_ t hb1
      clear b1 hbox
      go_wp2_with fail
      refine (re_ (oddS_calls u i_ a p n_ t _ hu ht) (ret_bool (by rw [HO.out]))).mono ?_
      rintro e w2 ⟨rfl, b2⟩
      have B2 := below_call B1 b2
      have hb2 := hcall hb1 b2
      clear s0 s1 s2 s3 s4 s5 sz b2 B1 hb1
      go_wp2_with fail
      refine (cloneSe_calls n c A l _ (hl.below B2) (by omega)).mono ?_
      rintro e w3 ⟨v3, rfl, hO3, b3⟩
      have B3 := below_call B2 b3
      have hb3 := hcall hb2 b3
      obtain ⟨s0, s1, s2, s3, s4, s5, sz⟩ := cellsSe u i_ a p n_ t hb3
      clear b3 B2 hb2
      go_wp2_with fail
      refine (of_calls u i_ a p n_ t _).mono ?_
      rintro e w4 ⟨rfl, b4⟩
      have B4 := below_call B3 b4
      clear s0 s1 s2 s3 s4 s5 sz b4 B3 hb3 hO3
      go_wp2_with fail
      refine (re_ (find_calls n c A l u i_ _ (hl.below B4)) (by rw [HIX.out, decide_eq_false (by decide)])).mono ?_
      rintro e w5 ⟨rfl, b5⟩
      have B5 := below_call B4 b5
      clear b5 B4
      go_wp2
      go_ret2
      rw [HF.out.1, HF.out.2]
      exact ⟨_, rfl, hl.below B5, B5, .inl rfl⟩
    · have HF : Hid (r = l.take (atSe l ⟨u, i_, a, p, n_, t⟩) ++ ⟨u, i_, a, p, n_, t⟩ :: l.drop (atSe l ⟨u, i_, a, p, n_, t⟩) ∧ er = 0) := by
        have := HR.out
        rw [putSe_new hm ho (by rw [hks]; exact hix) (by rw [← EA.out]; exact hfull)] at this
        injection this with h1 h2
        exact ⟨h1.symm, h2.symm⟩
      have hnb : ((n : Int) == 32) = false := beq_eq_false_iff_ne.2 (by omega)
      clear hm ho hix hks h32 hfull
      go_enter Tryz.func57, Tryz.ntmps57
      go_wp2_with fail
      refine HC.mono ?_
      rintro e w1 ⟨rfl, b1⟩
      have B1 := below_call hBx b1
      have hb1 := hcall hbox b1
      obtain ⟨s0, s1, s2, s3, s4, s5, sz⟩ := cellsSe u i_ a p n_ t hb1
      clear b1 hbox
      go_wp2_with fail
      refine (re_ (oddS_calls u i_ a p n_ t _ hu ht) (ret_bool (by rw [HO.out]))).mono ?_
      rintro e w2 ⟨rfl, b2⟩
      have B2 := below_call B1 b2
      have hb2 := hcall hb1 b2
      clear s0 s1 s2 s3 s4 s5 sz b2 B1 hb1
      go_wp2_with fail
      refine (cloneSe_calls n c A l _ (hl.below B2) (by omega)).mono ?_
      rintro e w3 ⟨v3, rfl, hO3, b3⟩
      have B3 := below_call B2 b3
      have hb3 := hcall hb2 b3
      replace hO3 := hO3.lower (base' := w.heap.size) (by have := B2.size; omega)
      obtain ⟨s0, s1, s2, s3, s4, s5, sz⟩ := cellsSe u i_ a p n_ t hb3
      clear b3 B2 hb2
      go_wp2_with fail
      refine (of_calls u i_ a p n_ t _).mono ?_
      rintro e w4 ⟨rfl, b4⟩
      have B4 := below_call B3 b4
      have hb4 := hcall hb3 b4
      have hO4 := hO3.below b4
      clear s0 s1 s2 s3 s4 s5 sz b4 B3 hb3 hO3
      go_wp2_with fail
      refine (re_ (find_calls n c A l u i_ _ (hl.below B4)) (by rw [HIX.out, decide_eq_false (by decide)])).mono ?_
      rintro e w5 ⟨rfl, b5⟩
      have B5 := below_call B4 b5
      have hb5 := hcall hb4 b5
      have hO5 := hO4.below b5
      clear b5 B4 hb4 hO4
      go_wp2_with fail
      go_loopw [9] (fun v9 wr => ∃ i : Nat, v9 = .int .i64 i ∧ i ≤ n ∧ Below w.heap.size w wr ∧ wr.heap[w.heap.size]? = some (bxSe u i_ a p n_ t) ∧ Own enSe 6 99 wr w.heap.size v3 l ∧ Hid (∀ j (h : j < l.length), j < i → ltSe (keySe l[j]) ((u, i_) : SeK) = true)) (fun v9 _ => (n - intOf v9).toNat)
      case atStart => exact ⟨0, rfl, Nat.zero_le _, B5, hb5, hO5, fun j _ h => absurd h (by omega)⟩
      case round =>
        obtain ⟨i, rfl, hi, hB, hbox, hOw, HT⟩ := hrel
        clear B5 hb5 hO5
        have hD : Below w.heap.size w wr.drew := hB.drew
        by_cases hlt : i < n
        · have hil : i < l.length := by have := EA.out; omega
          obtain ⟨⟨a_, b_, c_, d_, e_, f_⟩, he⟩ : ∃ e, l[i] = e := ⟨_, rfl⟩
          obtain ⟨ad, rfl, c0, c1, c2, c3, c4, c5⟩ := rowSe (hl.below hB) i hil a_ b_ c_ d_ e_ f_ he
          obtain ⟨s0, s1, s2, s3, s4, s5, sz⟩ := cellsSe u i_ a p n_ t hbox
          obtain ⟨b, hb⟩ : ∃ b, ltSe (a_, b_) (u, i_) = b := ⟨_, rfl⟩
          have HB := Lib.hid hb
          have HLT : Hid (ltSe (keySe l[i]) ((u, i_) : SeK) = b) := by show _ = _; rw [he, ← hb]; rfl
          have x1 : (0 : Int) ≤ (i : Int) := by omega
          have x2 : (i : Int) < (n : Int) := by omega
          replace hbox : wr.drew.heap[w.heap.size]? = some (bxSe u i_ a p n_ t) := hbox
          replace hOw : Own enSe 6 99 wr.drew w.heap.size v3 l := hOw
          clear hb he
          go_wp2_with fail
          go_region_held3 (fun w' => w'.cell? (ad.add (i * 6)) = some (.string a_) ∧ w'.cell? ⟨(ad.add (i * 6)).block, (ad.add (i * 6)).off + 1, none⟩ = some (.int .i64 b_) ∧ w'.cell? ⟨(ad.add (i * 6)).block, (ad.add (i * 6)).off + 2, none⟩ = some (.int .i64 c_) ∧ w'.cell? ⟨(ad.add (i * 6)).block, (ad.add (i * 6)).off + 3, none⟩ = some (.int .i64 d_) ∧ w'.cell? ⟨(ad.add (i * 6)).block, (ad.add (i * 6)).off + 4, none⟩ = some (.int .i64 e_) ∧ w'.cell? ⟨(ad.add (i * 6)).block, (ad.add (i * 6)).off + 5, none⟩ = some (.string f_) ∧ w'.cell? ⟨w.heap.size, 0, none⟩ = some (.string u) ∧ w'.cell? ⟨w.heap.size, 1, none⟩ = some (.int .i64 i_) ∧ w'.cell? ⟨w.heap.size, 2, none⟩ = some (.int .i64 a) ∧ w'.cell? ⟨w.heap.size, 3, none⟩ = some (.int .i64 p) ∧ w'.cell? ⟨w.heap.size, 4, none⟩ = some (.int .i64 n_) ∧ w'.cell? ⟨w.heap.size, 5, none⟩ = some (.string t)) (exact ⟨c0, c1, c2, c3, c4, c5, s0, s1, s2, s3, s4, s5⟩) (((first | (go_at_call 108; refine (of_calls _ _ _ _ _ _ _).mono ?_) | (go_at_call 109; refine (re_ (ahead_calls a_ b_ u i_ _) (ret_bool HB.out)).mono ?_)); rintro e wx ⟨rfl, hbx⟩; replace hD := below_call hD hbx; replace hOw := hOw.below hbx; replace hbox := hcall hbox hbx; replace c0 := cell_below hbx c0; replace c1 := cell_below hbx c1; replace c2 := cell_below hbx c2; replace c3 := cell_below hbx c3; replace c4 := cell_below hbx c4; replace c5 := cell_below hbx c5; replace s0 := cell_below hbx s0; replace s1 := cell_below hbx s1; replace s2 := cell_below hbx s2; replace s3 := cell_below hbx s3; replace s4 := cell_below hbx s4; replace s5 := cell_below hbx s5; clear hbx))
          all_goals
            clear c0 c1 c2 c3 c4 c5
            cases b with
            | true =>
              have HT2 : Hid (∀ j (h : j < l.length), j < i + 1 → ltSe (keySe l[j]) ((u, i_) : SeK) = true) := fun j h hj => by
                rcases Nat.lt_or_ge j i with h' | h'
                · exact HT.out j h h'
                · obtain rfl : j = i := by omega
                  exact HLT.out
              clear s0 s1 s2 s3 s4 s5 sz
              go_wp2
              exact ⟨⟨i + 1, by go_num, by omega, hD, hbox, hOw, HT2⟩, by simp [intOf]; omega⟩
            | false =>
              have HAT : Hid (atSe l ⟨u, i_, a, p, n_, t⟩ = i) := atSe_is (by have := EA.out; omega) HT.out (fun h => HLT.out)
              have hx9 : (wx.alloc (bxSe u i_ a p n_ t)).heap[wx.heap.size]? = some (.cells (enSe ⟨u, i_, a, p, n_, t⟩).toArray 99) := heap_alloc_new wx (bxSe u i_ a p n_ t)
              have HNE : Hid (v3.ownBlock ≠ some wx.heap.size) := fun e => absurd (hOw.lt _ e) (Nat.lt_irrefl _)
              have HLE : Hid (l.length ≤ 100000 ∧ i ≤ l.length) := by (constructor <;> (have := EA.out; omega))
              have HX9 := Lib.hid hx9
              clear hx9
              go_wp2_with fail
              with_reducible refine (insertSe_calls w.heap.size i wx.heap.size v3 l ⟨u, i_, a, p, n_, t⟩ w _ (hOw.alloc (bxSe u i_ a p n_ t)) HX9.out HNE.out HLE.out.1 HLE.out.2 (below_alloc0 hD (bxSe u i_ a p n_ t)) (below_alloc0 hD (bxSe u i_ a p n_ t)).size).mono ?_
              rintro e w9 ⟨v9, rfl, hO9, hB9⟩
              clear hD hOw hbox s0 s1 s2 s3 s4 s5 sz
              go_wp2
              go_ret2
              rw [HF.out.1, HF.out.2, HAT.out]
              exact ⟨_, rfl, hO9.row, hB9, .inr fun g hg => by first | exact hO9.base_le g hg | exact Nat.le_trans (Below.size (by assumption)) (hO9.base_le g hg) | exact Nat.le_trans hBx.size (hO9.base_le g hg)⟩
        · have hin : i = n := by omega
          have HAT : Hid (atSe l ⟨u, i_, a, p, n_, t⟩ = i) := atSe_is (by have := EA.out; omega) HT.out (fun h => absurd h (by have := EA.out; omega))
          have HIN := Lib.hid hin
          have hd1 : decide ((i : Int) < (n : Int)) = false := by simpa using (by omega : n ≤ i)
          have hd2 : decide (i < n) = false := by simpa using (by omega : n ≤ i)
          clear hD hin
          go_wp2_with fail
          go_quiet (fail)
          have hD : Below w.heap.size w (wr.drewN nq) := below_drewN hB _
          replace hbox : (wr.drewN nq).heap[w.heap.size]? = some (bxSe u i_ a p n_ t) := hbox
          replace hOw : Own enSe 6 99 (wr.drewN nq) w.heap.size v3 l := hOw
          obtain ⟨s0, s1, s2, s3, s4, s5, sz⟩ := cellsSe u i_ a p n_ t hbox
          have hx9 : ((wr.drewN nq).alloc (bxSe u i_ a p n_ t)).heap[wr.heap.size]? = some (.cells (enSe ⟨u, i_, a, p, n_, t⟩).toArray 99) := heap_alloc_new (wr.drewN nq) (bxSe u i_ a p n_ t)
          have HNE : Hid (v3.ownBlock ≠ some wr.heap.size) := fun e => absurd (hOw.lt _ e) (Nat.lt_irrefl _)
          have HLE : Hid (l.length ≤ 100000 ∧ i ≤ l.length) := by (constructor <;> (have := EA.out; omega))
          have HX9 := Lib.hid hx9
          clear hx9
          go_wp2_with fail
          with_reducible refine (insertSe_calls w.heap.size i wr.heap.size v3 l ⟨u, i_, a, p, n_, t⟩ w _ (hOw.alloc (bxSe u i_ a p n_ t)) HX9.out HNE.out HLE.out.1 HLE.out.2 (below_alloc0 hD (bxSe u i_ a p n_ t)) (below_alloc0 hD (bxSe u i_ a p n_ t)).size).mono ?_
          rintro e w9 ⟨v9, rfl, hO9, hB9⟩
          clear hD hOw hbox s0 s1 s2 s3 s4 s5 sz
          go_wp2
          go_ret2
          rw [HF.out.1, HF.out.2, HAT.out]
          exact ⟨_, rfl, hO9.row, hB9, .inr fun g hg => by first | exact hO9.base_le g hg | exact Nat.le_trans (Below.size (by assumption)) (hO9.base_le g hg) | exact Nat.le_trans hBx.size (hO9.base_le g hg)⟩
end Go.Proofs.YtbpfcjdjhponaaaGreat
namespace Go.Proofs.YtbpfcjdjhponaaaGreat
open Go.RowKit
open Sp
set_option maxHeartbeats 16000000 in
set_option maxRecDepth 100000 in
theorem Drop9_calls (n c : Nat) (A : Option Addr) (l : List Se) (u : ByteArray) (i_ : Int) (w : World) (hl : Row enSe 6 w (.slice A n c) l) (hz : SzSe l) :
    Calls Tryz.prog 58 #[.slice A n c, .string u, .int .i64 i_] w fun e w' => ∃ v, e = .returned (.tuple #[v, .int .i64 (dropSe l (u, i_)).2]) ∧ Row enSe 6 w' v (dropSe l (u, i_)).1 ∧ Below w.heap.size w w' ∧ (v = .slice A n c ∨ ∀ g, v.ownBlock = some g → w.heap.size ≤ g) := by
  have EA := Lib.hid hl.len_eq
  obtain ⟨r, er, hr⟩ : ∃ r er, dropSe l (u, i_) = (r, er) := ⟨_, _, rfl⟩
  rw [hr]
  have HR := Lib.hid hr
  clear hr
  obtain ⟨m, hm⟩ : ∃ m, maySe l = m := ⟨_, rfl⟩
  have HM := Lib.hid hm
  have HC := re_ (May9_calls n c A l _ hl hz) (ret_bool HM.out)
  cases m with
  | false =>
    have HF : Hid (r = l ∧ er = 1) := by
      have := HR.out
      rw [dropSe_no hm] at this
      injection this with h1 h2
      exact ⟨h1.symm, h2.symm⟩
    clear hm
    go_enter Tryz.func58, Tryz.ntmps58
    go_wp2_with fail
    refine HC.mono ?_
    rintro e w1 ⟨rfl, b1⟩
    go_wp2
    go_ret2
    rw [HF.out.1, HF.out.2]
    exact ⟨_, rfl, hl.below b1, b1, .inl rfl⟩
  | true =>
  have h32 := ((maySe_iff l).1 hm).1
  have hn32 : n ≤ 32 := by have := EA.out; omega
  obtain ⟨ix, hix⟩ : ∃ ix, idxSe l (u, i_) = ix := ⟨_, rfl⟩
  cases ix with
  | none =>
    have HF : Hid (r = l ∧ er = 6) := by
      have := HR.out
      rw [dropSe_none hm hix] at this
      injection this with h1 h2
      exact ⟨h1.symm, h2.symm⟩
    have HIX : Hid (idxI (idxSe l (u, i_)) = -1) := by show _ = _; rw [hix]; rfl
    clear hm hix h32
    go_enter Tryz.func58, Tryz.ntmps58
    go_wp2_with fail
    refine HC.mono ?_
    rintro e w1 ⟨rfl, b1⟩
    go_wp2_with fail
    refine (re_ (find_calls n c A l u i_ _ (hl.below b1)) (by rw [HIX.out, decide_eq_false (by decide)])).mono ?_
    rintro e w2 ⟨rfl, b2⟩
    have B2 := below_call b1 b2
    clear b1 b2
    go_wp2
    go_ret2
    rw [HF.out.1, HF.out.2]
    exact ⟨_, rfl, hl.below B2, B2, .inl rfl⟩
  | some i =>
    obtain ⟨hil, -⟩ := idxSe_some hix
    have HF : Hid (r = l.take i ++ l.drop (i + 1) ∧ er = 0) := by
      have := HR.out
      rw [dropSe_at hm hix] at this
      injection this with h1 h2
      exact ⟨h1.symm, h2.symm⟩
    have HIX : Hid (idxI (idxSe l (u, i_)) = (i : Int)) := by show _ = _; rw [hix]; rfl
    have x1 : (0 : Int) ≤ (i : Int) := by omega
    have x2 : (i : Int) < (n : Int) := by have := EA.out; omega
    have HIL : Hid (i < l.length ∧ l.length ≤ 100000) := ⟨hil, by omega⟩
    clear hm hix h32 hil
    go_enter Tryz.func58, Tryz.ntmps58
    go_wp2_with fail
    refine HC.mono ?_
    rintro e w1 ⟨rfl, b1⟩
    go_wp2_with fail
    refine (re_ (find_calls n c A l u i_ _ (hl.below b1)) (by rw [HIX.out, decide_eq_true x1])).mono ?_
    rintro e w2 ⟨rfl, b2⟩
    have B2 := below_call b1 b2
    clear b1 b2
    go_wp2_with fail
    refine (cloneSe_calls n c A l _ (hl.below B2) (by omega)).mono ?_
    rintro e w3 ⟨v3, rfl, hO3, b3⟩
    have B3 := below_call B2 b3
    replace hO3 := hO3.lower (base' := w.heap.size) B2.size
    clear b3 B2
    go_wp2_with fail
    with_reducible refine (deleteSe_calls w.heap.size i v3 l w _ hO3 HIL.out.2 HIL.out.1 B3 B3.size).mono ?_
    rintro e w4 ⟨v4, rfl, hO4, hB4⟩
    go_wp2
    go_ret2
    rw [HF.out.1, HF.out.2]
    exact ⟨_, rfl, hO4.row, hB4, .inr fun g hg => by first | exact hO4.base_le g hg | exact Nat.le_trans (Below.size (by assumption)) (hO4.base_le g hg) | exact Nat.le_trans hBx.size (hO4.base_le g hg)⟩
set_option maxHeartbeats 16000000 in
set_option maxRecDepth 100000 in
theorem refDrop9_calls (n c : Nat) (A : Option Addr) (l : List Se) (u : ByteArray) (i_ : Int) (w : World) (hl : Row enSe 6 w (.slice A n c) l) (hz : SzSe l) :
    Calls Tryz.prog 114 #[.slice A n c, .string u, .int .i64 i_] w fun e w' => ∃ v, e = .returned (.tuple #[v, .int .i64 (dropSe l (u, i_)).2]) ∧ Row enSe 6 w' v (dropSe l (u, i_)).1 ∧ Below w.heap.size w w' ∧ (v = .slice A n c ∨ ∀ g, v.ownBlock = some g → w.heap.size ≤ g) := by
  have EA := Lib.hid hl.len_eq
  obtain ⟨r, er, hr⟩ : ∃ r er, dropSe l (u, i_) = (r, er) := ⟨_, _, rfl⟩
  rw [hr]
  have HR := Lib.hid hr
  clear hr
  obtain ⟨m, hm⟩ : ∃ m, maySe l = m := ⟨_, rfl⟩
  have HM := Lib.hid hm
  have HC := re_ (refMay9_calls n c A l _ hl hz) (ret_bool HM.out)
  cases m with
  | false =>
    have HF : Hid (r = l ∧ er = 1) := by
      have := HR.out
      rw [dropSe_no hm] at this
      injection this with h1 h2
      exact ⟨h1.symm, h2.symm⟩
    clear hm
    go_enter Tryz.func114, Tryz.ntmps114
    go_wp2_with fail
    refine HC.mono ?_
    rintro e w1 ⟨rfl, b1⟩
    go_wp2
    go_ret2
    rw [HF.out.1, HF.out.2]
    exact ⟨_, rfl, hl.below b1, b1, .inl rfl⟩
  | true =>
  have h32 := ((maySe_iff l).1 hm).1
  have hn32 : n ≤ 32 := by have := EA.out; omega
  obtain ⟨ix, hix⟩ : ∃ ix, idxSe l (u, i_) = ix := ⟨_, rfl⟩
  cases ix with
  | none =>
    have HF : Hid (r = l ∧ er = 6) := by
      have := HR.out
      rw [dropSe_none hm hix] at this
      injection this with h1 h2
      exact ⟨h1.symm, h2.symm⟩
    have HIX : Hid (idxI (idxSe l (u, i_)) = -1) := by show _ = _; rw [hix]; rfl
    clear hm hix h32
    go_enter Tryz.func114, Tryz.ntmps114
    go_wp2_with fail
    refine HC.mono ?_
    rintro e w1 ⟨rfl, b1⟩
    go_wp2_with fail
    refine (re_ (place_calls n c A l u i_ _ (hl.below b1)) (by rw [HIX.out])).mono ?_
    rintro e w2 ⟨rfl, b2⟩
    have B2 := below_call b1 b2
    clear b1 b2
    go_wp2
    go_ret2
    rw [HF.out.1, HF.out.2]
    exact ⟨_, rfl, hl.below B2, B2, .inl rfl⟩
  | some i =>
    obtain ⟨hil, -⟩ := idxSe_some hix
    have HF : Hid (r = l.take i ++ l.drop (i + 1) ∧ er = 0) := by
      have := HR.out
      rw [dropSe_at hm hix] at this
      injection this with h1 h2
      exact ⟨h1.symm, h2.symm⟩
    have HIX : Hid (idxI (idxSe l (u, i_)) = (i : Int)) := by show _ = _; rw [hix]; rfl
    have x1 : (0 : Int) ≤ (i : Int) := by omega
    have x2 : (i : Int) < (n : Int) := by have := EA.out; omega
    have hnc : n ≤ c := by obtain ⟨A', c', he, h1, _⟩ := hl; injection he with _ _ e3; subst e3; have := EA.out; omega
    obtain ⟨ad, rfl, -⟩ := hl.get enSe_len i hil
    have hT := hl.take enSe_len i (by omega)
    have hDr := hl.drop enSe_len (i + 1) (by omega)
    have x3 : (n : Int) ≤ (c : Int) := by omega
    have x4 : (i : Int) + 1 ≤ (n : Int) := by omega
    have x5 : IntKind.i64.wrap ((i : Int) + 1) = (i : Int) + 1 := by rw [IntKind.wrap_i64]; omega
    have x6 : (0 : Int) ≤ (i : Int) + 1 := by omega
    have x7 : ((i : Int) + 1).toNat = i + 1 := by omega
    have x8 : i + 1 ≤ n := by omega
    have x9 : i ≤ n := by omega
    have x10 : i ≤ c := by omega
    have HZ1 : Hid (([] : List Se).length + (l.take i).length ≤ 2000000 ∧ (([] : List Se) ++ l.take i).length + (l.drop (i + 1)).length ≤ 2000000) := by
      constructor <;> simp only [List.length_append, List.length_take, List.length_drop, List.length_nil] <;> omega
    clear hm hix h32 hil
    have hen : ∀ W : World, Own enSe 6 99 (W.alloc (.cells #[] 99)) W.heap.size (.slice (some ⟨W.heap.size, 0, none⟩) 0 0) [] := fun W => Own.lit enSe_len W [] #[] 0 rfl rfl (Nat.le_refl _) (by omega)
    have HEN := Lib.hid hen
    clear hen
    by_cases hce : c = i + 1
    · have hn1 : n = i + 1 := by omega
      rw [if_pos hce] at hDr
      have hdr0 : Row enSe 6 w (.slice (some ad) 0 0) (l.drop (i + 1)) := by
        rw [show n - (i + 1) = 0 by omega, show c - (i + 1) = 0 by omega] at hDr; exact hDr
      subst hce
      have HDR := Lib.hid hdr0
      have HTT := Lib.hid hT
      have HN1 := Lib.hid hn1
      clear hdr0 hDr hT hn1
      have y1 : n = i + 1 := HN1.out
      subst y1
      clear x8 x9 x10 x4 hnc x3
      go_enter Tryz.func114, Tryz.ntmps114
      go_wp2_with fail
      refine HC.mono ?_
      rintro e w1 ⟨rfl, b1⟩
      go_wp2_with fail
      refine (re_ (place_calls _ _ _ l u i_ _ (hl.below b1)) (by rw [HIX.out])).mono ?_
      rintro e w2 ⟨rfl, b2⟩
      have B2 := below_call b1 b2
      have O2 := (HEN.out w2).lower (base' := w.heap.size) B2.size
      have B3 := below_alloc0 B2 (.cells #[] 99)
      clear b1 b2
      go_wp2_with (first | (at_builtin; refine Own.appendRow (w0 := w) w.heap.size rfl (.tmp 21) (.tmp 24) 23 99 zvSe 6 64 rfl Tryz.underlying23 infoSe rfl (by decide) (.slice (some ⟨w2.heap.size, 0, none⟩) 0 0) (.slice (some ad) i (i + 1)) [] (l.take i) rfl rfl enSe_one O2 (HTT.out.below B3) B3 B3.size (by have := HZ1.out.1; omega) (by have := HZ1.out.1; omega) ?_; intro v4 w4 hO4 hB4 _ _) | (at_builtin; refine Own.appendRow (w0 := w) w.heap.size rfl (.tmp 26) (.tmp 30) 23 99 zvSe 6 64 rfl Tryz.underlying23 infoSe rfl (by decide) v4 (.slice (some ad) 0 0) ([] ++ l.take i) (l.drop (i + 1)) rfl rfl enSe_one hO4 (HDR.out.below hB4) hB4 hB4.size (by have := HZ1.out.2; omega) (by have := HZ1.out.2; omega) ?_; intro v5 w5 hO5 hB5 _ _))
      go_ret2
      rw [HF.out.1, HF.out.2]
      exact ⟨_, rfl, hO5.row, hB5, .inr fun g hg => by first | exact hO5.base_le g hg | exact Nat.le_trans (Below.size (by assumption)) (hO5.base_le g hg) | exact Nat.le_trans hBx.size (hO5.base_le g hg)⟩
    · rw [if_neg hce] at hDr
      have hdr0 : Row enSe 6 w (.slice (some (ad.add ((i + 1) * 6))) (n - (i + 1)) (c - (i + 1))) (l.drop (i + 1)) := hDr
      have HDR := Lib.hid hdr0
      have HTT := Lib.hid hT
      clear hdr0 hDr hT
      go_enter Tryz.func114, Tryz.ntmps114
      go_wp2_with fail
      refine HC.mono ?_
      rintro e w1 ⟨rfl, b1⟩
      go_wp2_with fail
      refine (re_ (place_calls n c _ l u i_ _ (hl.below b1)) (by rw [HIX.out])).mono ?_
      rintro e w2 ⟨rfl, b2⟩
      have B2 := below_call b1 b2
      have O2 := (HEN.out w2).lower (base' := w.heap.size) B2.size
      have B3 := below_alloc0 B2 (.cells #[] 99)
      clear b1 b2
      go_wp2_with (first | (at_builtin; refine Own.appendRow (w0 := w) w.heap.size rfl (.tmp 21) (.tmp 24) 23 99 zvSe 6 64 rfl Tryz.underlying23 infoSe rfl (by decide) (.slice (some ⟨w2.heap.size, 0, none⟩) 0 0) (.slice (some ad) i c) [] (l.take i) rfl rfl enSe_one O2 (HTT.out.below B3) B3 B3.size (by have := HZ1.out.1; omega) (by have := HZ1.out.1; omega) ?_; intro v4 w4 hO4 hB4 _ _) | (at_builtin; refine Own.appendRow (w0 := w) w.heap.size rfl (.tmp 26) (.tmp 30) 23 99 zvSe 6 64 rfl Tryz.underlying23 infoSe rfl (by decide) v4 (.slice (some (ad.add ((i + 1) * 6))) (n - (i + 1)) (c - (i + 1))) ([] ++ l.take i) (l.drop (i + 1)) rfl rfl enSe_one hO4 (HDR.out.below hB4) hB4 hB4.size (by have := HZ1.out.2; omega) (by have := HZ1.out.2; omega) ?_; intro v5 w5 hO5 hB5 _ _))
      go_ret2
      rw [HF.out.1, HF.out.2]
      exact ⟨_, rfl, hO5.row, hB5, .inr fun g hg => by first | exact hO5.base_le g hg | exact Nat.le_trans (Below.size (by assumption)) (hO5.base_le g hg) | exact Nat.le_trans hBx.size (hO5.base_le g hg)⟩
end Go.Proofs.YtbpfcjdjhponaaaGreat
namespace Go.Proofs.YtbpfcjdjhponaaaGreat
open Go.RowKit
open Sp
set_option maxHeartbeats 32000000 in
set_option maxRecDepth 100000 in
theorem refPut9_calls (n c : Nat) (A : Option Addr) (l : List Se) (u : ByteArray) (i_ a p n_ : Int) (t : ByteArray) (w : World) (hl : Row enSe 6 w (.slice A n c) l) (hz : SzSe l) (hu : u.size ≤ 140737488351232) (ht : t.size ≤ 140737488351232) :
    Calls Tryz.prog 113 #[.slice A n c, ag6 u i_ a p n_ t] w fun e w' => ∃ v, e = .returned (.tuple #[v, .int .i64 (putSe l ⟨u, i_, a, p, n_, t⟩).2]) ∧ Row enSe 6 w' v (putSe l ⟨u, i_, a, p, n_, t⟩).1 ∧ Below w.heap.size w w' ∧ (v = .slice A n c ∨ ∀ g, v.ownBlock = some g → w.heap.size ≤ g) := by
  have EA := Lib.hid hl.len_eq
  obtain ⟨r, er, hr⟩ : ∃ r er, putSe l ⟨u, i_, a, p, n_, t⟩ = (r, er) := ⟨_, _, rfl⟩
  rw [hr]
  have HR := Lib.hid hr
  clear hr
  have hBx := below_box (w := w) (bxSe u i_ a p n_ t)
  have hbox := heap_alloc_new w (bxSe u i_ a p n_ t)
  obtain ⟨m, hm⟩ : ∃ m, maySe l = m := ⟨_, rfl⟩
  have HM := Lib.hid hm
  have HC := re_ (refMay9_calls n c A l _ (hl.below hBx) hz) (ret_bool HM.out)
  cases m with
  | false =>
    have HF : Hid (r = l ∧ er = 1) := by
      have := HR.out
      rw [putSe_no (.inl hm)] at this
      injection this with h1 h2
      exact ⟨h1.symm, h2.symm⟩
    clear hm
    go_enter Tryz.func113, Tryz.ntmps113
    go_wp2_with fail
    refine HC.mono ?_
    rintro e w1 ⟨rfl, b1⟩
    have B1 := below_call hBx b1
    go_wp2
    go_ret2
    rw [HF.out.1, HF.out.2]
    exact ⟨_, rfl, hl.below B1, B1, .inl rfl⟩
  | true =>
  obtain ⟨o, ho⟩ : ∃ o, oneS ⟨u, i_, a, p, n_, t⟩ = o := ⟨_, rfl⟩
  have HO := Lib.hid ho
  cases o with
  | false =>
    have HF : Hid (r = l ∧ er = 1) := by
      have := HR.out
      rw [putSe_no (.inr ho)] at this
      injection this with h1 h2
      exact ⟨h1.symm, h2.symm⟩
    clear hm ho
    go_enter Tryz.func113, Tryz.ntmps113
    go_wp2_with fail
    refine HC.mono ?_
    rintro e w1 ⟨rfl, b1⟩
    have hb1 := hcall hbox b1
    obtain ⟨s0, s1, s2, s3, s4, s5, sz⟩ := cellsSe u i_ a p n_ t hb1
    go_wp2_with fail
    refine (re_ (refOne_calls u i_ a p n_ t _ hu ht) (ret_bool HO.out)).mono ?_
    rintro e w2 ⟨rfl, b2⟩
    have D2 := below_call b1 b2
    clear b1 b2 s0 s1 s2 s3 s4 s5 sz hb1
    have B2 := below_call hBx D2
    go_wp2
    go_ret2
    rw [HF.out.1, HF.out.2]
    exact ⟨_, rfl, hl.below B2, B2, .inl rfl⟩
  | true =>
  have h32 := ((maySe_iff l).1 hm).1
  have hn32 : n ≤ 32 := by have := EA.out; omega
  obtain ⟨ix, hix⟩ : ∃ ix, idxSe l (u, i_) = ix := ⟨_, rfl⟩
  have hks : keySe ⟨u, i_, a, p, n_, t⟩ = (u, i_) := rfl
  have hen : ∀ W : World, Own enSe 6 99 (W.alloc (.cells #[] 99)) W.heap.size (.slice (some ⟨W.heap.size, 0, none⟩) 0 0) [] := fun W => Own.lit enSe_len W [] #[] 0 rfl rfl (Nat.le_refl _) (by omega)
  have HEN := Lib.hid hen
  have HZ1 : Hid (l.length ≤ 100000) := by show _ ≤ _; omega
  clear hen
  cases ix with
  | some i =>
    obtain ⟨hil, -⟩ := idxSe_some hix
    have HF : Hid (r = l.set i ⟨u, i_, a, p, n_, t⟩ ∧ er = 0) := by
      have := HR.out
      rw [putSe_at hm ho (by rw [hks]; exact hix)] at this
      injection this with h1 h2
      exact ⟨h1.symm, h2.symm⟩
    have HIX : Hid (idxI (idxSe l (u, i_)) = (i : Int)) := by show _ = _; rw [hix]; rfl
    have x1 : (0 : Int) ≤ (i : Int) := by omega
    have x2 : (i : Int) < (n : Int) := by have := EA.out; omega
    have HIL := Lib.hid hil
    clear hm ho hix hks h32 hil
    go_enter Tryz.func113, Tryz.ntmps113
    go_wp2_with fail
    refine HC.mono ?_
    rintro e w1 ⟨rfl, b1⟩
    have hb1 := hcall hbox b1
    obtain ⟨s0, s1, s2, s3, s4, s5, sz⟩ := cellsSe u i_ a p n_ t hb1
    go_wp2_with fail
    refine (re_ (refOne_calls u i_ a p n_ t _ hu ht) (ret_bool HO.out)).mono ?_
    rintro e w2 ⟨rfl, b2⟩
    have D2 := below_call b1 b2
    clear b1 b2 s0 s1 s2 s3 s4 s5 sz hb1
    obtain ⟨s0, s1, s2, s3, s4, s5, sz⟩ := cellsSe u i_ a p n_ t (hcall hbox D2)
    go_wp2_with fail
    refine (re_ (place_calls n c A l u i_ _ (hl.below (below_call hBx D2))) (by rw [HIX.out])).mono ?_
    rintro e w3 ⟨rfl, b3⟩
    have hD := below_call D2 b3
    clear b3 D2 s0 s1 s2 s3 s4 s5 sz
    have O2 := (HEN.out w3).lower (base' := (w.alloc (bxSe u i_ a p n_ t)).heap.size) hD.size
    have B3 := hD.alloc hD.size (.cells #[] 99)
    go_wp2_with (first | (at_builtin; refine Own.appendRow (w0 := (w.alloc (bxSe u i_ a p n_ t))) (w.alloc (bxSe u i_ a p n_ t)).heap.size rfl (.tmp 27) (.tmp 28) 23 99 zvSe 6 64 rfl Tryz.underlying23 infoSe rfl (by decide) (.slice (some ⟨w3.heap.size, 0, none⟩) 0 0) (.slice A n c) [] l rfl rfl enSe_one O2 (hl.below (below_call hBx B3)) B3 B3.size (by have := HZ1.out; simp only [List.length_nil]; omega) (by have := HZ1.out; simp only [List.length_nil]; omega) ?_; intro v4 w4 (hO4 : Own enSe 6 99 w4 _ v4 l) hB4 _ _; (obtain ⟨A4, c4, hv4, _⟩ := hO4.slice); (rw [← EA.out] at hv4); subst hv4; (obtain ⟨b, rfl, hbb, _⟩ := hO4.at0 (by have := HIL.out; omega)); (obtain ⟨s0, s1, s2, s3, s4, s5, sz⟩ := cellsSe u i_ a p n_ t (hcall hbox hB4))) | (with_reducible refine Own.store rfl 99 (.tmp 33) (.tmp 32) rfl szSe b n c4 i l ⟨u, i_, a, p, n_, t⟩ hO4 enSe_len (enSe_one _) HIL.out rfl (enSe ⟨u, i_, a, p, n_, t⟩) rfl rfl hB4 ?_; intro w6 hO6 hB6 hz6 ho6))
    go_ret2
    rw [HF.out.1, HF.out.2]
    exact ⟨_, rfl, hO6.row, below_call hBx hB6, .inr fun g hg => by first | exact hO6.base_le g hg | exact Nat.le_trans (Below.size (by assumption)) (hO6.base_le g hg) | exact Nat.le_trans hBx.size (hO6.base_le g hg)⟩
  | none =>
    have HIX : Hid (idxI (idxSe l (u, i_)) = -1) := by show _ = _; rw [hix]; rfl
    by_cases hfull : n = 32
    · have HF : Hid (r = l ∧ er = 5) := by
        have := HR.out
        rw [putSe_full hm ho (by rw [hks]; exact hix) (by rw [← EA.out]; exact hfull)] at this
        injection this with h1 h2
        exact ⟨h1.symm, h2.symm⟩
      have hnb : (32 : Int) ≤ (n : Int) := by omega
      clear hm ho hix hks h32 hfull
      go_enter Tryz.func113, Tryz.ntmps113
      go_wp2_with fail
      refine HC.mono ?_
      rintro e w1 ⟨rfl, b1⟩
      have hb1 := hcall hbox b1
      obtain ⟨s0, s1, s2, s3, s4, s5, sz⟩ := cellsSe u i_ a p n_ t hb1
      go_wp2_with fail
      refine (re_ (refOne_calls u i_ a p n_ t _ hu ht) (ret_bool HO.out)).mono ?_
      rintro e w2 ⟨rfl, b2⟩
      have D2 := below_call b1 b2
      clear b1 b2 s0 s1 s2 s3 s4 s5 sz hb1
      obtain ⟨s0, s1, s2, s3, s4, s5, sz⟩ := cellsSe u i_ a p n_ t (hcall hbox D2)
      go_wp2_with fail
      refine (re_ (place_calls n c A l u i_ _ (hl.below (below_call hBx D2))) (by rw [HIX.out])).mono ?_
      rintro e w3 ⟨rfl, b3⟩
      have hD := below_call D2 b3
      clear b3 D2 s0 s1 s2 s3 s4 s5 sz
      have B3 := below_call hBx hD
      go_wp2
      go_ret2
      rw [HF.out.1, HF.out.2]
      exact ⟨_, rfl, hl.below B3, B3, .inl rfl⟩
    · have HF : Hid (r = l.take (atSe l ⟨u, i_, a, p, n_, t⟩) ++ ⟨u, i_, a, p, n_, t⟩ :: l.drop (atSe l ⟨u, i_, a, p, n_, t⟩) ∧ er = 0) := by
        have := HR.out
        rw [putSe_new hm ho (by rw [hks]; exact hix) (by rw [← EA.out]; exact hfull)] at this
        injection this with h1 h2
        exact ⟨h1.symm, h2.symm⟩
      have hnb : (n : Int) < 32 := by omega
      have hcap : n ≤ c ∧ c ≤ 9223372036854775807 := by
        obtain ⟨A', c', he, h1, h2, _⟩ := hl
        injection he with e1 e2 e3
        subst e3
        simp only [maxLen] at h2
        have := EA.out
        omega
      obtain ⟨hc1, hc2⟩ := hcap
      clear hm ho hix hks h32 hfull
      go_enter Tryz.func113, Tryz.ntmps113
      go_wp2_with fail
      refine HC.mono ?_
      rintro e w1 ⟨rfl, b1⟩
      have hb1 := hcall hbox b1
      obtain ⟨s0, s1, s2, s3, s4, s5, sz⟩ := cellsSe u i_ a p n_ t hb1
      go_wp2_with fail
      refine (re_ (refOne_calls u i_ a p n_ t _ hu ht) (ret_bool HO.out)).mono ?_
      rintro e w2 ⟨rfl, b2⟩
      have D2 := below_call b1 b2
      clear b1 b2 s0 s1 s2 s3 s4 s5 sz hb1
      obtain ⟨s0, s1, s2, s3, s4, s5, sz⟩ := cellsSe u i_ a p n_ t (hcall hbox D2)
      go_wp2_with fail
      refine (re_ (place_calls n c A l u i_ _ (hl.below (below_call hBx D2))) (by rw [HIX.out])).mono ?_
      rintro e w3 ⟨rfl, b3⟩
      have hD := below_call D2 b3
      clear b3 D2 s0 s1 s2 s3 s4 s5 sz
      go_wp2_with fail
      go_loopw [8] (fun v9 wr => ∃ i : Nat, v9 = .int .i64 i ∧ i ≤ n ∧ Below (w.alloc (bxSe u i_ a p n_ t)).heap.size (w.alloc (bxSe u i_ a p n_ t)) wr ∧ Hid (∀ j (h : j < l.length), j < i → ltSe (keySe l[j]) ((u, i_) : SeK) = true)) (fun v9 _ => (n - intOf v9).toNat)
      case atStart => exact ⟨0, rfl, Nat.zero_le _, hD, fun j _ h => absurd h (by omega)⟩
      case round =>
        obtain ⟨i, rfl, hi, hB, HT⟩ := hrel
        clear hD
        by_cases hlt : i < n
        · have hil : i < l.length := by have := EA.out; omega
          obtain ⟨⟨a_, b_, c_, d_, e_, f_⟩, he⟩ : ∃ e, l[i] = e := ⟨_, rfl⟩
          obtain ⟨ad, rfl, c0, c1, c2, c3, c4, c5⟩ := rowSe (hl.below (below_call hBx hB)) i hil a_ b_ c_ d_ e_ f_ he
          obtain ⟨s0, s1, s2, s3, s4, s5, sz⟩ := cellsSe u i_ a p n_ t (hcall hbox hB)
          obtain ⟨b, hb⟩ : ∃ b, ltSe (a_, b_) (u, i_) = b := ⟨_, rfl⟩
          have HB := Lib.hid hb
          have HLT : Hid (ltSe (keySe l[i]) ((u, i_) : SeK) = b) := by show _ = _; rw [he, ← hb]; rfl
          have x1 : (0 : Int) ≤ (i : Int) := by omega
          have x2 : (i : Int) < (n : Int) := by omega
          have hD : Below (w.alloc (bxSe u i_ a p n_ t)).heap.size (w.alloc (bxSe u i_ a p n_ t)) wr.drew := hB.drew
          clear hb he
          go_wp2_with fail
          go_region_held3 (fun w' => w'.cell? (ad.add (i * 6)) = some (.string a_) ∧ w'.cell? ⟨(ad.add (i * 6)).block, (ad.add (i * 6)).off + 1, none⟩ = some (.int .i64 b_) ∧ w'.cell? ⟨(ad.add (i * 6)).block, (ad.add (i * 6)).off + 2, none⟩ = some (.int .i64 c_) ∧ w'.cell? ⟨(ad.add (i * 6)).block, (ad.add (i * 6)).off + 3, none⟩ = some (.int .i64 d_) ∧ w'.cell? ⟨(ad.add (i * 6)).block, (ad.add (i * 6)).off + 4, none⟩ = some (.int .i64 e_) ∧ w'.cell? ⟨(ad.add (i * 6)).block, (ad.add (i * 6)).off + 5, none⟩ = some (.string f_) ∧ w'.cell? ⟨w.heap.size, 0, none⟩ = some (.string u) ∧ w'.cell? ⟨w.heap.size, 1, none⟩ = some (.int .i64 i_) ∧ w'.cell? ⟨w.heap.size, 2, none⟩ = some (.int .i64 a) ∧ w'.cell? ⟨w.heap.size, 3, none⟩ = some (.int .i64 p) ∧ w'.cell? ⟨w.heap.size, 4, none⟩ = some (.int .i64 n_) ∧ w'.cell? ⟨w.heap.size, 5, none⟩ = some (.string t)) (exact ⟨c0, c1, c2, c3, c4, c5, s0, s1, s2, s3, s4, s5⟩) (((go_at_call 87; refine (re_ (refAheadS_calls a_ b_ c_ d_ e_ f_ u i_ a p n_ t _) (ret_bool HB.out)).mono ?_); rintro e wx ⟨rfl, hbx⟩; replace hD := hD.trans (hbx.mono hD.size); replace c0 := cell_below hbx c0; replace c1 := cell_below hbx c1; replace c2 := cell_below hbx c2; replace c3 := cell_below hbx c3; replace c4 := cell_below hbx c4; replace c5 := cell_below hbx c5; replace s0 := cell_below hbx s0; replace s1 := cell_below hbx s1; replace s2 := cell_below hbx s2; replace s3 := cell_below hbx s3; replace s4 := cell_below hbx s4; replace s5 := cell_below hbx s5; clear hbx))
          all_goals
            clear c0 c1 c2 c3 c4 c5 s0 s1 s2 s3 s4 s5 sz
            cases b with
            | true =>
              have HT2 : Hid (∀ j (h : j < l.length), j < i + 1 → ltSe (keySe l[j]) ((u, i_) : SeK) = true) := fun j h hj => by
                rcases Nat.lt_or_ge j i with h' | h'
                · exact HT.out j h h'
                · obtain rfl : j = i := by omega
                  exact HLT.out
              go_wp2
              exact ⟨⟨i + 1, by go_num, by omega, hD, HT2⟩, by simp [intOf]; omega⟩
            | false =>
              have HAT : Hid (atSe l ⟨u, i_, a, p, n_, t⟩ = i) := atSe_is (by have := EA.out; omega) HT.out (fun h => HLT.out)
              have hTk := hl.take enSe_len i (by omega)
              have hDk : Row enSe 6 w (.slice (some (ad.add (i * 6))) (n - i) (c - i)) (l.drop i) := by
                have := hl.drop enSe_len i (by omega)
                rwa [if_neg (by omega)] at this
              have HTK := Lib.hid hTk
              have HDK := Lib.hid hDk
              have y1 : i ≤ n := by omega
              have y2 : i ≤ c := by omega
              have y3 : ¬ (c = i) := by omega
              have y4 : (i : Int) ≤ (n : Int) := by omega
              have y5 : (i : Int) ≤ (c : Int) := by omega
              clear hTk hDk
              have O2 := (HEN.out wx).lower (base' := (w.alloc (bxSe u i_ a p n_ t)).heap.size) hD.size
              have B3 := hD.alloc hD.size (.cells #[] 99)
              go_wp2_with (first | (at_builtin; refine Own.appendRow (w0 := (w.alloc (bxSe u i_ a p n_ t))) (w.alloc (bxSe u i_ a p n_ t)).heap.size rfl (.tmp 53) (.tmp 56) 23 99 zvSe 6 64 rfl Tryz.underlying23 infoSe rfl (by decide) (.slice (some ⟨wx.heap.size, 0, none⟩) 0 0) (.slice (some ad) i c) [] (l.take i) rfl rfl enSe_one O2 ((HTK.out).below (below_call hBx B3)) B3 B3.size (by have := HZ1.out; simp only [List.length_nil, List.length_take]; omega) (by have := HZ1.out; simp only [List.length_nil, List.length_take]; omega) ?_; intro v4 w4 hO4 hB4 _ _; (obtain ⟨s0, s1, s2, s3, s4, s5, sz⟩ := cellsSe u i_ a p n_ t (hcall hbox hB4))) | (at_builtin; refine Own.append (w0 := (w.alloc (bxSe u i_ a p n_ t))) (w.alloc (bxSe u i_ a p n_ t)).heap.size rfl (.tmp 58) (.tmp 60) 23 99 zvSe 6 64 rfl Tryz.underlying23 infoSe rfl (by decide) v4 ([] ++ (l.take i)) ⟨u, i_, a, p, n_, t⟩ (enSe ⟨u, i_, a, p, n_, t⟩) rfl rfl rfl rfl (enSe_one _) hO4 hB4 hB4.size (by have := HZ1.out; simp only [List.length_append, List.length_nil, List.length_take]; omega) (by have := HZ1.out; simp only [List.length_append, List.length_nil, List.length_take]; omega) ?_; intro v5 w5 hO5 hB5 _ _) | (at_builtin; refine Own.appendRow (w0 := (w.alloc (bxSe u i_ a p n_ t))) (w.alloc (bxSe u i_ a p n_ t)).heap.size rfl (.tmp 62) (.tmp 65) 23 99 zvSe 6 64 rfl Tryz.underlying23 infoSe rfl (by decide) v5 (.slice (some (ad.add (i * 6))) (n - i) (c - i)) ([] ++ (l.take i) ++ [⟨u, i_, a, p, n_, t⟩]) (l.drop i) rfl rfl enSe_one hO5 (HDK.out.below (below_call hBx hB5)) hB5 hB5.size (by have := HZ1.out; simp only [List.length_append, List.length_nil, List.length_cons, List.length_take, List.length_drop]; omega) (by have := HZ1.out; simp only [List.length_append, List.length_nil, List.length_cons, List.length_take, List.length_drop]; omega) ?_; intro v6 w6 hO6 hB6 _ _))
              all_goals
                go_ret2
                rw [HF.out.1, HF.out.2, HAT.out]
                refine ⟨_, rfl, ?_, below_call hBx hB6, .inr fun g hg => Nat.le_trans hBx.size (hO6.base_le g (by simpa using hg))⟩
                have := hO6.row
                simpa using this
        · have hin : i = n := by omega
          subst hin
          have HAT : Hid (atSe l ⟨u, i_, a, p, n_, t⟩ = i) := atSe_is (by have := EA.out; omega) HT.out (fun h => absurd h (by have := EA.out; omega))
          have HDN : Hid (l.take i = l ∧ l.drop i = []) := ⟨List.take_of_length_le (by have := EA.out; omega), List.drop_eq_nil_of_le (by have := EA.out; omega)⟩
          have HRE : Hid (∀ (W : World) (A' : Option Addr) (c' : Nat), c' ≤ 9223372036854775807 → Row enSe 6 W (.slice A' 0 c') []) := fun W A' c' h => Row.empty enSe 6 W A' c' h
          obtain h0 | h0 : i = 0 ∨ 0 < i := by omega
          · subst h0
            have HTK := Lib.hid (hl.take enSe_len 0 (by omega))
            have hd1 : decide ((0 : Int) < ((0 : Nat) : Int)) = false := by decide
            go_wp2_with fail
            go_quiet (fail)
            have hD : Below (w.alloc (bxSe u i_ a p n_ t)).heap.size (w.alloc (bxSe u i_ a p n_ t)) (wr.drewN nq) := below_drewN hB _
            have O2 := (HEN.out wr).lower (base' := (w.alloc (bxSe u i_ a p n_ t)).heap.size) hD.size
            have B3 := hD.alloc hD.size (.cells #[] 99)
            go_wp2_with (first | (at_builtin; refine Own.appendRow (w0 := (w.alloc (bxSe u i_ a p n_ t))) (w.alloc (bxSe u i_ a p n_ t)).heap.size rfl (.tmp 53) (.tmp 56) 23 99 zvSe 6 64 rfl Tryz.underlying23 infoSe rfl (by decide) (.slice (some ⟨wr.heap.size, 0, none⟩) 0 0) (.slice A 0 c) [] (l.take 0) rfl rfl enSe_one O2 ((HTK.out).below (below_call hBx B3)) B3 B3.size (by have := HZ1.out; simp only [List.length_nil, List.length_take]; omega) (by have := HZ1.out; simp only [List.length_nil, List.length_take]; omega) ?_; intro v4 w4 hO4 hB4 _ _; (obtain ⟨s0, s1, s2, s3, s4, s5, sz⟩ := cellsSe u i_ a p n_ t (hcall hbox hB4))) | (at_builtin; refine Own.append (w0 := (w.alloc (bxSe u i_ a p n_ t))) (w.alloc (bxSe u i_ a p n_ t)).heap.size rfl (.tmp 58) (.tmp 60) 23 99 zvSe 6 64 rfl Tryz.underlying23 infoSe rfl (by decide) v4 ([] ++ (l.take 0)) ⟨u, i_, a, p, n_, t⟩ (enSe ⟨u, i_, a, p, n_, t⟩) rfl rfl rfl rfl (enSe_one _) hO4 hB4 hB4.size (by have := HZ1.out; simp only [List.length_append, List.length_nil, List.length_take]; omega) (by have := HZ1.out; simp only [List.length_append, List.length_nil, List.length_take]; omega) ?_; intro v5 w5 hO5 hB5 _ _) | (at_builtin; refine Own.appendRow (w0 := (w.alloc (bxSe u i_ a p n_ t))) (w.alloc (bxSe u i_ a p n_ t)).heap.size rfl (.tmp 62) (.tmp 65) 23 99 zvSe 6 64 rfl Tryz.underlying23 infoSe rfl (by decide) v5 _ ([] ++ (l.take 0) ++ [⟨u, i_, a, p, n_, t⟩]) [] rfl rfl enSe_one hO5 (HRE.out _ _ _ (by omega)) hB5 hB5.size (by have := HZ1.out; simp only [List.length_append, List.length_nil, List.length_cons, List.length_take, List.length_drop]; omega) (by have := HZ1.out; simp only [List.length_append, List.length_nil, List.length_cons, List.length_take, List.length_drop]; omega) ?_; intro v6 w6 hO6 hB6 _ _))
            all_goals
              go_ret2
              rw [HF.out.1, HF.out.2, HAT.out, HDN.out.2]
              refine ⟨_, rfl, ?_, below_call hBx hB6, .inr fun g hg => Nat.le_trans hBx.size (hO6.base_le g (by simpa using hg))⟩
              have := hO6.row
              simpa using this
          · by_cases hci : c = i
            · subst hci
              have HTK := Lib.hid (hl.take enSe_len c (by omega))
              have hd1 : decide ((c : Int) < (c : Int)) = false := by simp
              go_wp2_with fail
              go_quiet (fail)
              have hD : Below (w.alloc (bxSe u i_ a p n_ t)).heap.size (w.alloc (bxSe u i_ a p n_ t)) (wr.drewN nq) := below_drewN hB _
              have O2 := (HEN.out wr).lower (base' := (w.alloc (bxSe u i_ a p n_ t)).heap.size) hD.size
              have B3 := hD.alloc hD.size (.cells #[] 99)
              go_wp2_with (first | (at_builtin; refine Own.appendRow (w0 := (w.alloc (bxSe u i_ a p n_ t))) (w.alloc (bxSe u i_ a p n_ t)).heap.size rfl (.tmp 53) (.tmp 56) 23 99 zvSe 6 64 rfl Tryz.underlying23 infoSe rfl (by decide) (.slice (some ⟨wr.heap.size, 0, none⟩) 0 0) (.slice A c c) [] (l.take c) rfl rfl enSe_one O2 ((HTK.out).below (below_call hBx B3)) B3 B3.size (by have := HZ1.out; simp only [List.length_nil, List.length_take]; omega) (by have := HZ1.out; simp only [List.length_nil, List.length_take]; omega) ?_; intro v4 w4 hO4 hB4 _ _; (obtain ⟨s0, s1, s2, s3, s4, s5, sz⟩ := cellsSe u i_ a p n_ t (hcall hbox hB4))) | (at_builtin; refine Own.append (w0 := (w.alloc (bxSe u i_ a p n_ t))) (w.alloc (bxSe u i_ a p n_ t)).heap.size rfl (.tmp 58) (.tmp 60) 23 99 zvSe 6 64 rfl Tryz.underlying23 infoSe rfl (by decide) v4 ([] ++ (l.take c)) ⟨u, i_, a, p, n_, t⟩ (enSe ⟨u, i_, a, p, n_, t⟩) rfl rfl rfl rfl (enSe_one _) hO4 hB4 hB4.size (by have := HZ1.out; simp only [List.length_append, List.length_nil, List.length_take]; omega) (by have := HZ1.out; simp only [List.length_append, List.length_nil, List.length_take]; omega) ?_; intro v5 w5 hO5 hB5 _ _) | (at_builtin; refine Own.appendRow (w0 := (w.alloc (bxSe u i_ a p n_ t))) (w.alloc (bxSe u i_ a p n_ t)).heap.size rfl (.tmp 62) (.tmp 65) 23 99 zvSe 6 64 rfl Tryz.underlying23 infoSe rfl (by decide) v5 _ ([] ++ (l.take c) ++ [⟨u, i_, a, p, n_, t⟩]) [] rfl rfl enSe_one hO5 (HRE.out _ _ _ (by omega)) hB5 hB5.size (by have := HZ1.out; simp only [List.length_append, List.length_nil, List.length_cons, List.length_take, List.length_drop]; omega) (by have := HZ1.out; simp only [List.length_append, List.length_nil, List.length_cons, List.length_take, List.length_drop]; omega) ?_; intro v6 w6 hO6 hB6 _ _))
              all_goals
                go_ret2
                rw [HF.out.1, HF.out.2, HAT.out, HDN.out.2]
                refine ⟨_, rfl, ?_, below_call hBx hB6, .inr fun g hg => Nat.le_trans hBx.size (hO6.base_le g (by simpa using hg))⟩
                have := hO6.row
                simpa using this
            · have hci' : i < c := by omega
              have HTK := Lib.hid (hl.take enSe_len i (by omega))
              have hd1 : decide ((i : Int) < (i : Int)) = false := by simp
              go_wp2_with fail
              go_quiet (fail)
              have hD : Below (w.alloc (bxSe u i_ a p n_ t)).heap.size (w.alloc (bxSe u i_ a p n_ t)) (wr.drewN nq) := below_drewN hB _
              have O2 := (HEN.out wr).lower (base' := (w.alloc (bxSe u i_ a p n_ t)).heap.size) hD.size
              have B3 := hD.alloc hD.size (.cells #[] 99)
              go_wp2_with (first | (at_builtin; refine Own.appendRow (w0 := (w.alloc (bxSe u i_ a p n_ t))) (w.alloc (bxSe u i_ a p n_ t)).heap.size rfl (.tmp 53) (.tmp 56) 23 99 zvSe 6 64 rfl Tryz.underlying23 infoSe rfl (by decide) (.slice (some ⟨wr.heap.size, 0, none⟩) 0 0) (.slice A i c) [] (l.take i) rfl rfl enSe_one O2 ((HTK.out).below (below_call hBx B3)) B3 B3.size (by have := HZ1.out; simp only [List.length_nil, List.length_take]; omega) (by have := HZ1.out; simp only [List.length_nil, List.length_take]; omega) ?_; intro v4 w4 hO4 hB4 _ _; (obtain ⟨s0, s1, s2, s3, s4, s5, sz⟩ := cellsSe u i_ a p n_ t (hcall hbox hB4))) | (at_builtin; refine Own.append (w0 := (w.alloc (bxSe u i_ a p n_ t))) (w.alloc (bxSe u i_ a p n_ t)).heap.size rfl (.tmp 58) (.tmp 60) 23 99 zvSe 6 64 rfl Tryz.underlying23 infoSe rfl (by decide) v4 ([] ++ (l.take i)) ⟨u, i_, a, p, n_, t⟩ (enSe ⟨u, i_, a, p, n_, t⟩) rfl rfl rfl rfl (enSe_one _) hO4 hB4 hB4.size (by have := HZ1.out; simp only [List.length_append, List.length_nil, List.length_take]; omega) (by have := HZ1.out; simp only [List.length_append, List.length_nil, List.length_take]; omega) ?_; intro v5 w5 hO5 hB5 _ _) | (at_builtin; refine Own.appendRow (w0 := (w.alloc (bxSe u i_ a p n_ t))) (w.alloc (bxSe u i_ a p n_ t)).heap.size rfl (.tmp 62) (.tmp 65) 23 99 zvSe 6 64 rfl Tryz.underlying23 infoSe rfl (by decide) v5 _ ([] ++ (l.take i) ++ [⟨u, i_, a, p, n_, t⟩]) [] rfl rfl enSe_one hO5 (HRE.out _ _ _ (by omega)) hB5 hB5.size (by have := HZ1.out; simp only [List.length_append, List.length_nil, List.length_cons, List.length_take, List.length_drop]; omega) (by have := HZ1.out; simp only [List.length_append, List.length_nil, List.length_cons, List.length_take, List.length_drop]; omega) ?_; intro v6 w6 hO6 hB6 _ _))
              all_goals
                go_ret2
                rw [HF.out.1, HF.out.2, HAT.out, HDN.out.2]
                refine ⟨_, rfl, ?_, below_call hBx hB6, .inr fun g hg => Nat.le_trans hBx.size (hO6.base_le g (by simpa using hg))⟩
                have := hO6.row
                simpa using this
end Go.Proofs.YtbpfcjdjhponaaaGreat
namespace Go.Proofs.YtbpfcjdjhponaaaGreat
open Go.RowKit
open Sp
section
variable (n c : Nat) (A : Option Addr) (l : List Se) (w : World) (hl : Row enSe 6 w (.slice A n c) l)
include hl
theorem Put9F_is (u : ByteArray) (i a p m : Int) (t : ByteArray) (r : List Se) (er : Int) (hz : SzSe l) (hu : u.size ≤ 140737488351232) (ht : t.size ≤ 140737488351232) (h : Hid (putSe l ⟨u, i, a, p, m, t⟩ = (r, er))) :
    Calls Tryz.prog 57 #[.slice A n c, ag6 u i a p m t] w fun e w' => ∃ v, e = .returned (.tuple #[v, .int .i64 er]) ∧ Row enSe 6 w' v r ∧ Below w.heap.size w w' ∧ (v = .slice A n c ∨ ∀ g, v.ownBlock = some g → w.heap.size ≤ g) := by
  have := Put9_calls n c A l u i a p m t w hl hz hu ht
  rwa [h.out] at this
theorem refPut9F_is (u : ByteArray) (i a p m : Int) (t : ByteArray) (r : List Se) (er : Int) (hz : SzSe l) (hu : u.size ≤ 140737488351232) (ht : t.size ≤ 140737488351232) (h : Hid (putSe l ⟨u, i, a, p, m, t⟩ = (r, er))) :
    Calls Tryz.prog 113 #[.slice A n c, ag6 u i a p m t] w fun e w' => ∃ v, e = .returned (.tuple #[v, .int .i64 er]) ∧ Row enSe 6 w' v r ∧ Below w.heap.size w w' ∧ (v = .slice A n c ∨ ∀ g, v.ownBlock = some g → w.heap.size ≤ g) := by
  have := refPut9_calls n c A l u i a p m t w hl hz hu ht
  rwa [h.out] at this
theorem Drop9F_is (u : ByteArray) (i : Int) (r : List Se) (er : Int) (hz : SzSe l) (h : Hid (dropSe l (u, i) = (r, er))) :
    Calls Tryz.prog 58 #[.slice A n c, .string u, .int .i64 i] w fun e w' => ∃ v, e = .returned (.tuple #[v, .int .i64 er]) ∧ Row enSe 6 w' v r ∧ Below w.heap.size w w' ∧ (v = .slice A n c ∨ ∀ g, v.ownBlock = some g → w.heap.size ≤ g) := by
  have := Drop9_calls n c A l u i w hl hz
  rwa [h.out] at this
theorem refDrop9F_is (u : ByteArray) (i : Int) (r : List Se) (er : Int) (hz : SzSe l) (h : Hid (dropSe l (u, i) = (r, er))) :
    Calls Tryz.prog 114 #[.slice A n c, .string u, .int .i64 i] w fun e w' => ∃ v, e = .returned (.tuple #[v, .int .i64 er]) ∧ Row enSe 6 w' v r ∧ Below w.heap.size w w' ∧ (v = .slice A n c ∨ ∀ g, v.ownBlock = some g → w.heap.size ≤ g) := by
  have := refDrop9_calls n c A l u i w hl hz
  rwa [h.out] at this
theorem May9_is (b : Bool) (hz : SzSe l) (h : Hid (maySe l = b)) : Calls Tryz.prog 95 #[.slice A n c] w fun e w' => e = .returned (.bool b) ∧ Below w.heap.size w w' :=
  re_ (May9_calls n c A l w hl hz) (ret_bool h.out)
theorem refMay9_is (b : Bool) (hz : SzSe l) (h : Hid (maySe l = b)) : Calls Tryz.prog 38 #[.slice A n c] w fun e w' => e = .returned (.bool b) ∧ Below w.heap.size w w' :=
  re_ (refMay9_calls n c A l w hl hz) (ret_bool h.out)
theorem few9_is (b : Bool) (hz : ∀ s ∈ l, s.u.size ≤ 9223372036854775807 ∧ s.v.2.2.2.size ≤ 9223372036854775807) (h : Hid (fewSe l = b)) : Calls Tryz.prog 36 #[.slice A n c] w fun e w' => e = .returned (.bool b) ∧ Below w.heap.size w w' :=
  re_ (few9_calls n c A l w hl hz) (ret_bool h.out)
theorem Of9_is (q : ByteArray) (r : List Se) (hn : n ≤ 100000) (h : Hid (ofSe l q = r)) : Calls Tryz.prog 64 #[.slice A n c, .string q] w fun e w' => ∃ v, e = .returned v ∧ Row enSe 6 w' v r ∧ Below w.heap.size w w' :=
  (Of9_calls n c A l q w hl hn).mono fun e w' ⟨v, he, ho, hb⟩ => ⟨v, he, by have := ho.row; rwa [show l.filter (fun s => decide (s.u = q)) = r from h.out] at this, hb⟩
end
theorem few_sz {l : List Se} (h : fewSe l = true) : SzSe l ∧ l.length ≤ 50 := by
  unfold fewSe at h
  rw [Bool.and_eq_true, List.all_eq_true, decide_eq_true_eq] at h
  refine ⟨fun s hs => ?_, h.1⟩
  have := h.2 s hs
  rw [Bool.and_eq_true, decide_eq_true_eq, decide_eq_true_eq] at this
  omega
end Go.Proofs.YtbpfcjdjhponaaaGreat
namespace Go.Proofs.YtbpfcjdjhponaaaGreat
open Go.RowKit
open Sp
abbrev agT (A : Option Addr) (n c : Nat) (B : Option Addr) (m d : Nat) : Value := .agg #[.slice A n c, .slice B m d]
abbrev bxT (A : Option Addr) (n c : Nat) (B : Option Addr) (m d : Nat) : Obj := .cells #[.slice A n c, .slice B m d] 25
theorem cellsT {W : World} {g : Nat} {A : Option Addr} {n c : Nat} {B : Option Addr} {m d : Nat} (h : W.heap[g]? = some (bxT A n c B m d)) : W.cell? ⟨g, 0, none⟩ = some (.slice A n c) ∧ W.cell? ⟨g, 1, none⟩ = some (.slice B m d) ∧ g < W.heap.size :=
  ⟨by simp [World.cell?, h], by simp [World.cell?, h], (Array.getElem?_eq_some_iff.1 h).1⟩
theorem between_calls (k : Int) (w : World) :
    Calls Tryz.prog 55 #[.int .i64 k] w fun e w' => e = .returned (.bool (decide (1 ≤ k ∧ k ≤ 6))) ∧ Below w.heap.size w w' := by
  have D := Below.refl w.heap.size w
  by_cases h1 : 1 ≤ k
  · have HF : Hid (decide (1 ≤ k ∧ k ≤ 6) = decide (k ≤ 6)) := by show _ = _; simp [h1]
    have g1 : decide (1 ≤ k) = true := decide_eq_true h1
    go_enter Tryz.func55, Tryz.ntmps55
    go_wp2
    go_ret
    rw [HF.out]
    exact ⟨rfl, D⟩
  · have HF : Hid (decide (1 ≤ k ∧ k ≤ 6) = false) := by show _ = _; simp [h1]
    have g1 : decide (1 ≤ k) = false := decide_eq_false h1
    go_enter Tryz.func55, Tryz.ntmps55
    go_wp2
    go_ret
    exact ⟨by (try rw [HF.out]); rfl, D⟩
theorem between_is (k : Int) (b : Bool) (w : World) (h : Hid (decide (1 ≤ k ∧ k ≤ 6) = b)) :
    Calls Tryz.prog 55 #[.int .i64 k] w fun e w' => e = .returned (.bool b) ∧ Below w.heap.size w w' := re_ (between_calls k w) (ret_bool h.out)
section
variable (n c : Nat) (A : Option Addr) (l : List En) (m d : Nat) (B : Option Addr) (s : List Se) (w : World) (hl : Row enEn 7 w (.slice A n c) l) (hs : Row enSe 6 w (.slice B m d) s)
include hl hs
set_option maxHeartbeats 16000000 in
set_option maxRecDepth 100000 in
theorem MayT_is (hz : SzRo l) (hy : SzSe s) (hn : n ≤ 100000) (b : Bool) (h : Hid (mayT (l, s) = b)) :
    Calls Tryz.prog 54 #[agT A n c B m d] w fun e w' => e = .returned (.bool b) ∧ Below w.heap.size w w' := by
  have D := below_box (w := w) (bxT A n c B m d)
  have hb := heap_alloc_new w (bxT A n c B m d)
  replace hl := hl.below D
  replace hs := hs.below D
  have h0 := h.out
  unfold mayT at h0
  simp only at h0
  clear h
  obtain ⟨r, hr⟩ : ∃ r, mayRo l = r := ⟨_, rfl⟩
  rw [hr] at h0
  have HR := Lib.hid hr
  clear hr
  cases r with
  | false =>
    have HF : Hid (b = false) := by show _ = _; rw [← h0]; rfl
    clear h0
    obtain ⟨z0, z1, zz⟩ := cellsT hb
    go_enter Tryz.func54, Tryz.ntmps54
    go_wp2_with fail
    with_reducible refine (May8_is n c A l _ hl false hz hn HR).mono ?_
    rintro e w1 ⟨rfl, b1⟩
    replace hl := hl.below b1
    replace hs := hs.below b1
    replace hb := hcall hb b1
    replace D := below_call D b1
    clear b1 z0 z1 zz
    go_wp2
    go_ret
    rw [HF.out]
    exact ⟨rfl, D⟩
  | true =>
    have HF : Hid (maySe s = b) := by show _ = _; rw [← h0]; rfl
    clear h0
    obtain ⟨z0, z1, zz⟩ := cellsT hb
    go_enter Tryz.func54, Tryz.ntmps54
    go_wp2_with fail
    with_reducible refine (May8_is n c A l _ hl true hz hn HR).mono ?_
    rintro e w1 ⟨rfl, b1⟩
    replace hl := hl.below b1
    replace hs := hs.below b1
    replace hb := hcall hb b1
    replace D := below_call D b1
    clear b1 z0 z1 zz
    obtain ⟨z0, z1, zz⟩ := cellsT hb
    go_wp2_with fail
    with_reducible refine (May9_is m d B s _ hs b hy HF).mono ?_
    rintro e w2 ⟨rfl, b2⟩
    replace hl := hl.below b2
    replace hs := hs.below b2
    replace hb := hcall hb b2
    replace D := below_call D b2
    clear b2 z0 z1 zz
    go_wp2
    go_ret
    exact ⟨rfl, D⟩
set_option maxHeartbeats 16000000 in
set_option maxRecDepth 100000 in
theorem refMayT_is (hz : SzRo l) (hy : SzSe s) (hn : n ≤ 100000) (b : Bool) (h : Hid (mayT (l, s) = b)) :
    Calls Tryz.prog 10 #[agT A n c B m d] w fun e w' => e = .returned (.bool b) ∧ Below w.heap.size w w' := by
  have D := below_box (w := w) (bxT A n c B m d)
  have hb := heap_alloc_new w (bxT A n c B m d)
  replace hl := hl.below D
  replace hs := hs.below D
  have h0 := h.out
  unfold mayT at h0
  simp only at h0
  clear h
  obtain ⟨r, hr⟩ : ∃ r, mayRo l = r := ⟨_, rfl⟩
  rw [hr] at h0
  have HR := Lib.hid hr
  clear hr
  cases r with
  | false =>
    have HF : Hid (b = false) := by show _ = _; rw [← h0]; rfl
    clear h0
    obtain ⟨z0, z1, zz⟩ := cellsT hb
    go_enter Tryz.func10, Tryz.ntmps10
    go_wp2_with fail
    with_reducible refine (refMay8_is n c A l _ hl false hz hn HR).mono ?_
    rintro e w1 ⟨rfl, b1⟩
    replace hl := hl.below b1
    replace hs := hs.below b1
    replace hb := hcall hb b1
    replace D := below_call D b1
    clear b1 z0 z1 zz
    go_wp2
    go_ret
    rw [HF.out]
    exact ⟨rfl, D⟩
  | true =>
    have HF : Hid (maySe s = b) := by show _ = _; rw [← h0]; rfl
    clear h0
    obtain ⟨z0, z1, zz⟩ := cellsT hb
    go_enter Tryz.func10, Tryz.ntmps10
    go_wp2_with fail
    with_reducible refine (refMay8_is n c A l _ hl true hz hn HR).mono ?_
    rintro e w1 ⟨rfl, b1⟩
    replace hl := hl.below b1
    replace hs := hs.below b1
    replace hb := hcall hb b1
    replace D := below_call D b1
    clear b1 z0 z1 zz
    obtain ⟨z0, z1, zz⟩ := cellsT hb
    go_wp2_with fail
    with_reducible refine (refMay9_is m d B s _ hs b hy HF).mono ?_
    rintro e w2 ⟨rfl, b2⟩
    replace hl := hl.below b2
    replace hs := hs.below b2
    replace hb := hcall hb b2
    replace D := below_call D b2
    clear b2 z0 z1 zz
    go_wp2
    go_ret
    exact ⟨rfl, D⟩
end
end Go.Proofs.YtbpfcjdjhponaaaGreat
